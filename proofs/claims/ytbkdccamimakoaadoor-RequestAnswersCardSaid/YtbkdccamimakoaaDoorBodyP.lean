/-
  Bodies of requests: plain laws on their bytes.
-/
import Derived.Test.YtbkdccamimakoaaDoorBody
namespace Go.Proofs.YtbkdccamimakoaaDoor
open Go.RowKit
set_option linter.unusedVariables false

theorem be_succ (n s : Nat) : be n (s + 1) = byteAt n s :: be n s := by
  unfold be
  rw [List.range_succ_eq_map, List.map_cons, List.map_map]
  congr 1
  refine List.map_congr_left fun j hj => ?_
  simp only [Function.comp]
  congr 1
  omega

theorem mod_pow_succ (n s : Nat) : n % 256 ^ (s + 1) = byteAt n s * 256 ^ s + n % 256 ^ s := by
  unfold byteAt
  rw [Nat.pow_succ, Nat.mod_mul]
  rw [Nat.mul_comm (256 ^ s)]
  omega

theorem be_eq (s : Nat) : ∀ n m : Nat, be n s = be m s ↔ n % 256 ^ s = m % 256 ^ s := by
  induction s with
  | zero => intro n m; simp [be, Nat.mod_one]
  | succ s ih =>
    intro n m
    rw [be_succ, be_succ, List.cons.injEq, ih n m, mod_pow_succ, mod_pow_succ]
    have hp : 0 < 256 ^ s := Nat.pow_pos (by omega)
    have h1 := Nat.mod_lt n hp
    have h2 := Nat.mod_lt m hp
    constructor
    · rintro ⟨a, b⟩
      rw [a, b]
    · intro h
      have e : ∀ x y, y < 256 ^ s → (x * 256 ^ s + y) / 256 ^ s = x := fun x y hy => by
        rw [Nat.mul_comm, Nat.mul_add_div hp, Nat.div_eq_of_lt hy, Nat.add_zero]
      have e1 := e (byteAt n s) _ h1
      have e2 := e (byteAt m s) _ h2
      rw [h, e2] at e1
      refine ⟨e1.symm, ?_⟩
      rw [e1] at h
      omega

theorem be_app (n m s : Nat) (x y : List Nat) : be n s ++ x = be m s ++ y ↔ n % 256 ^ s = m % 256 ^ s ∧ x = y := by
  constructor
  · intro h
    obtain ⟨h1, h2⟩ := List.append_inj h (by rw [be_length, be_length])
    exact ⟨(be_eq s n m).1 h1, h2⟩
  · rintro ⟨h1, rfl⟩
    rw [(be_eq s n m).2 h1]

theorem txt_length (l : List Nat) (h : l.length ≤ 65535) : (txt l).length = 2 + l.length := by
  unfold txt
  rw [List.length_append, be_length, List.length_take, Nat.mod_eq_of_lt (by omega)]
  omega

/-- A body without refusals. -/
theorem bodyRes_ok (R : Req) (l : List Fld) (hl : fieldsOf R.op = some l) (h : ∀ f ∈ l, fldWhy R f = 0) : bodyRes R = (0, be R.op.toNat 1 ++ l.flatMap (fldB R)) := by
  unfold bodyRes
  rw [hl]
  simp only
  rw [bodyGo_end R l l.length _ (by rw [List.take_length]; exact h), List.drop_length, List.take_length]
  rfl

/-- What is turned in RequestFields. -/
def upd (k : Int) (R : Req) : Req :=
  if k = 0 then { R with tree := R.tree + 1 }
  else if k = 1 then { R with tenant := R.tenant + 1 }
  else if k = 2 then { R with leaf := R.leaf ++ [1] }
  else if k = 3 then { R with lo := (R.lo + 1) % 18446744073709551616 }
  else if k = 4 then { R with weight := R.weight + 1 }
  else if k = 5 then { R with store := (R.store + 1) % 4294967296 }
  else { R with expires := (R.expires + 1) % 18446744073709551616 }

def hasB (k op : Int) : Bool :=
  if k = 0 then treesB op
  else if k = 1 then op == 6 || op == 10 || op == 12
  else if k = 2 then op == 1
  else if k = 3 then op == 3 || op == 4 || op == 5
  else if k = 4 then op == 6 || op == 8
  else if k = 5 then op == 12
  else op == 10

structure Req.Small (R : Req) (m : Int) (n : Nat) : Prop where
  op1 : 1 ≤ R.op
  op2 : R.op ≤ 12
  tree0 : 0 ≤ R.tree
  tree : R.tree ≤ m
  tenant0 : 0 ≤ R.tenant
  tenant : R.tenant ≤ m
  role0 : 0 ≤ R.role
  role : R.role ≤ m
  state0 : 0 ≤ R.state
  state : R.state ≤ m
  weight0 : 0 ≤ R.weight
  weight : R.weight ≤ m
  leaf : R.leaf.length ≤ n

theorem Req.Small.why {R : Req} {m : Int} {n : Nat} (h : R.Small m n) (hm : m ≤ 255) (hn : n ≤ 256) (f : Fld) (hf : IsFld f) : fldWhy R f = 0 := by
  obtain ⟨h1, h2, h3, h4, h5, h6, h7, h8, h9, h10, h11, h12, h13⟩ := h
  unfold IsFld at hf
  unfold fldWhy
  rcases hf with rfl | rfl | rfl | rfl | rfl | rfl | rfl | rfl | rfl | rfl | rfl | rfl | rfl <;> simp [Req.num] <;> omega

theorem Req.Small.fields {R : Req} {m : Int} {n : Nat} (h : R.Small m n) : ∃ l, fieldsOf R.op = some l := by
  obtain ⟨h1, h2, -⟩ := h
  unfold fieldsOf
  repeat' split
  all_goals first | exact ⟨_, rfl⟩ | omega

theorem Req.Small.body {R : Req} {m : Int} {n : Nat} (h : R.Small m n) (hm : m ≤ 255) (hn : n ≤ 256) : ∃ l, fieldsOf R.op = some l ∧ bodyRes R = (0, be R.op.toNat 1 ++ l.flatMap (fldB R)) := by
  obtain ⟨l, hl⟩ := h.fields
  exact ⟨l, hl, bodyRes_ok R l hl fun f hf => h.why hm hn f (isFld _ l hl f hf)⟩

theorem Req.Small.upd {R : Req} (h : R.Small 250 200) (k : Int) : (upd k R).Small 251 201 := by
  obtain ⟨h1, h2, h3, h4, h5, h6, h7, h8, h9, h10, h11, h12, h13⟩ := h
  unfold Proofs.YtbkdccamimakoaaDoor.upd
  repeat' split
  all_goals (constructor <;> simp <;> omega)

theorem upd_op (k : Int) (R : Req) : (upd k R).op = R.op := by
  unfold upd
  repeat' split
  all_goals rfl

theorem opCases {op : Int} (h1 : 1 ≤ op) (h2 : op ≤ 12) : op = 1 ∨ op = 2 ∨ op = 3 ∨ op = 4 ∨ op = 5 ∨ op = 6 ∨ op = 7 ∨ op = 8 ∨ op = 9 ∨ op = 10 ∨ op = 11 ∨ op = 12 := by omega

theorem txt_ne (l : List Nat) (h : l.length ≤ 200) : ¬ txt l = txt (l ++ [1]) := by
  intro e
  have := congrArg List.length e
  rw [txt_length _ (by omega), txt_length _ (by simp; omega)] at this
  simp at this

theorem fields_plain (R : Req) (k : Int) (h : R.Small 250 200) (k0 : 0 ≤ k) (k6 : k ≤ 6) (hlo : R.lo < 18446744073709551616) (hst : R.store < 4294967296) (hex : R.expires < 18446744073709551616) :
    (bodyRes R).1 = 0 ∧ (bodyRes (upd k R)).1 = 0 ∧ ((bodyRes R).2 = (bodyRes (upd k R)).2 ↔ hasB k R.op = false) := by
  obtain ⟨l, hl, hb⟩ := h.body (by omega) (by omega)
  obtain ⟨l', hl', hb'⟩ := (h.upd k).body (by omega) (by omega)
  rw [upd_op] at hl' hb'
  rw [hl] at hl'
  injection hl' with hl'
  subst hl'
  rw [hb, hb']
  refine ⟨rfl, rfl, ?_⟩
  simp only [be_app, true_and]
  obtain ⟨h1, h2, h3, h4, h5, h6, h7, h8, h9, h10, h11, h12, h13⟩ := h
  have ht := txt_ne R.leaf h13
  obtain ⟨op, tid, cavs, tag, tree, tenant, role, state, weight, id, lo, hi, rate, burst, store, expires, leaf⟩ := R
  simp only at *
  have hk : k = 0 ∨ k = 1 ∨ k = 2 ∨ k = 3 ∨ k = 4 ∨ k = 5 ∨ k = 6 := by omega
  rcases opCases h1 h2 with rfl | rfl | rfl | rfl | rfl | rfl | rfl | rfl | rfl | rfl | rfl | rfl
  all_goals
    (injection hl with hl
     subst hl
     rcases hk with rfl | rfl | rfl | rfl | rfl | rfl | rfl
     all_goals (simp [upd, hasB, treesB, fldB, Req.num, be_app, be_eq, ht]; try omega))

end Go.Proofs.YtbkdccamimakoaaDoor
