/-
  A region that draws its order, in which at one place SEVERAL operations that write may come up: walked along a tree of orders up to where they meet, and on from there once. Plain lemmas over XSeq.
-/
import Derived.Test.YtamhggndcegndaaDoorSeq
namespace Go.Proofs.YtamhggndcegndaaDoor
open Go
set_option linter.unusedVariables false

section
variable {P : Program} {ops : Array Oper} {Q : Exit → Act → World → Prop} {md : Region.Mode} {S : World → Prop} {n : Nat}

/-- Some steps (all of them below n): what is listed behind them, if the rules let them. -/
def stepsOk (md : Region.Mode) (ops : Array Oper) (n : Nat) : List (Nat × Bool) → Array Bool → Option (Array Bool)
  | [], listed => some listed
  | (i, false) :: r, listed => if decide (i < n) && (Region.ready md ops listed).contains i && Region.free md ops listed i then stepsOk md ops n r (listed.setIfInBounds i true) else none
  | (i, true) :: r, listed => if decide (i < n) && (Region.ready md ops listed == [i]) then stepsOk md ops n r (listed.setIfInBounds i true) else none

/-- The walk along some steps, K behind them. -/
def wpSteps (P : Program) (ops : Array Oper) (Q : Exit → Act → World → Prop) (S : World → Prop) (K : Act → World → Prop) : List (Nat × Bool) → Act → World → Prop
  | [], a, w => K a w
  | (i, false) :: r, a, w => ∃ o v, ops[i]? = some o ∧ YieldsIf P ops S o v a ∧ wpSteps P ops Q S K r (a.put o.dst v) w
  | (i, true) :: r, a, w => wpOp P ops Q i (fun a' w' => S w' ∧ wpSteps P ops Q S K r a' w') a w

theorem wpSteps_any {K : Act → World → Prop} {L' : Array Bool} {fuel : Nat} (hsel : Region.noSelect ops = true) (hQ : ∀ c a d v w, Q (.panic c) (a.put d v) w → Q (.panic c) a w) (ht : Tails md ops n)
    (hK : ∀ a w, S w → HeadInv md ops n L' → K a w → wpAnyS P md ops Q S n fuel L' a w) :
    ∀ (r : List (Nat × Bool)) (listed : Array Bool) (a : Act) (w : World), HeadInv md ops n listed → S w → stepsOk md ops n r listed = some L' → wpSteps P ops Q S K r a w → wpAnyS P md ops Q S n (r.length + fuel) listed a w := by
  intro r
  induction r with
  | nil =>
    intro listed a w inv hS ho h
    simp only [stepsOk, Option.some.injEq] at ho
    subst ho
    simpa using hK a w hS inv h
  | cons x r ih =>
    obtain ⟨i, b⟩ := x
    intro listed a w inv hS ho h
    rw [List.length_cons, Nat.add_right_comm]
    cases b with
    | false =>
      simp only [stepsOk, Option.ite_none_right_eq_some, Bool.and_eq_true, decide_eq_true_eq] at ho
      obtain ⟨⟨⟨hin, hr⟩, hf⟩, ho⟩ := ho
      obtain ⟨o, v, hi, hy, h⟩ := h
      have hr' : i ∈ Region.ready md ops listed := by simpa using hr
      exact wpAnyS_first hi (Region.noSelect_spec hsel) (fun c a w => hQ c a o.dst v w) ht hin (r.length + fuel) listed a w inv (Region.free_spec hi hf) hr' hy hS (ih _ _ _ (inv.set hr' hin) hS ho h)
    | true =>
      simp only [stepsOk, Option.ite_none_right_eq_some, Bool.and_eq_true, decide_eq_true_eq, beq_iff_eq] at ho
      obtain ⟨⟨hin, hr⟩, ho⟩ := ho
      have hr' : i ∈ Region.ready md ops listed := by rw [hr]; simp
      refine ⟨fun h0 => (by rw [hr] at h0; cases h0), fun j hj => ?_⟩
      obtain rfl : j = i := by rw [hr] at hj; simpa using hj
      exact wpOp_mono (fun a' w' h' => ⟨fun _ => h'.1, ih _ _ _ (inv.set hr' hin) h'.1 ho h'.2⟩) h

/-- Values put into slots. -/
def puts : Act → List Nat → List Value → Act
  | a, d :: ds, v :: vs => puts (a.put (some d) v) ds vs
  | a, _, _ => a

/-- A tree of orders: a read; the one write that may come up; either of two writes. -/
inductive OTree where
  | done
  | read (i : Nat) (t : OTree)
  | one (i : Nat) (t : OTree)
  | two (i : Nat) (t : OTree) (j : Nat) (u : OTree)

/-- All ways through the tree are those that the rules let, m operations long, and end where L1 is listed. -/
def treeOk (md : Region.Mode) (ops : Array Oper) (n : Nat) (L1 : Array Bool) : Nat → OTree → Array Bool → Bool
  | 0, .done, listed => listed == L1
  | m + 1, .read i t, listed => decide (i < n) && (Region.ready md ops listed).contains i && Region.free md ops listed i && treeOk md ops n L1 m t (listed.setIfInBounds i true)
  | m + 1, .one i t, listed => decide (i < n) && (Region.ready md ops listed == [i]) && treeOk md ops n L1 m t (listed.setIfInBounds i true)
  | m + 1, .two i t j u, listed => decide (i < n) && decide (j < n) && (Region.ready md ops listed == [i, j]) && treeOk md ops n L1 m t (listed.setIfInBounds i true) && treeOk md ops n L1 m u (listed.setIfInBounds j true)
  | _, _, _ => false

def wpTree (P : Program) (ops : Array Oper) (Q : Exit → Act → World → Prop) (S : World → Prop) (K : Act → World → Prop) : OTree → Act → World → Prop
  | .done, a, w => K a w
  | .read i t, a, w => ∃ o v, ops[i]? = some o ∧ YieldsIf P ops S o v a ∧ wpTree P ops Q S K t (a.put o.dst v) w
  | .one i t, a, w => wpOp P ops Q i (fun a' w' => S w' ∧ wpTree P ops Q S K t a' w') a w
  | .two i t j u, a, w => wpOp P ops Q i (fun a' w' => S w' ∧ wpTree P ops Q S K t a' w') a w ∧ wpOp P ops Q j (fun a' w' => S w' ∧ wpTree P ops Q S K u a' w') a w

theorem wpTree_any {K : Act → World → Prop} {L1 : Array Bool} {fuel : Nat} (hsel : Region.noSelect ops = true) (hQ : ∀ c a d v w, Q (.panic c) (a.put d v) w → Q (.panic c) a w) (ht : Tails md ops n)
    (hK : ∀ a w, S w → HeadInv md ops n L1 → K a w → wpAnyS P md ops Q S n fuel L1 a w) :
    ∀ (m : Nat) (t : OTree) (listed : Array Bool) (a : Act) (w : World), HeadInv md ops n listed → S w → treeOk md ops n L1 m t listed = true → wpTree P ops Q S K t a w → wpAnyS P md ops Q S n (m + fuel) listed a w := by
  intro m
  induction m with
  | zero =>
    intro t listed a w inv hS ho h
    cases t with
    | done =>
      simp only [treeOk, beq_iff_eq] at ho
      subst ho
      simpa using hK a w hS inv h
    | _ => simp [treeOk] at ho
  | succ m ih =>
    intro t listed a w inv hS ho h
    rw [Nat.add_right_comm]
    cases t with
    | done => simp [treeOk] at ho
    | read i t =>
      simp only [treeOk, Bool.and_eq_true, decide_eq_true_eq] at ho
      obtain ⟨⟨⟨hin, hr⟩, hf⟩, ho⟩ := ho
      obtain ⟨o, v, hi, hy, h⟩ := h
      have hr' : i ∈ Region.ready md ops listed := by simpa using hr
      exact wpAnyS_first hi (Region.noSelect_spec hsel) (fun c a w => hQ c a o.dst v w) ht hin (m + fuel) listed a w inv (Region.free_spec hi hf) hr' hy hS (ih _ _ _ _ (inv.set hr' hin) hS ho h)
    | one i t =>
      simp only [treeOk, Bool.and_eq_true, decide_eq_true_eq, beq_iff_eq] at ho
      obtain ⟨⟨hin, hr⟩, ho⟩ := ho
      have hr' : i ∈ Region.ready md ops listed := by rw [hr]; simp
      refine ⟨fun h0 => (by rw [hr] at h0; cases h0), fun j hj => ?_⟩
      obtain rfl : j = i := by rw [hr] at hj; simpa using hj
      exact wpOp_mono (fun a' w' h' => ⟨fun _ => h'.1, ih _ _ _ _ (inv.set hr' hin) h'.1 ho h'.2⟩) h
    | two i t j u =>
      simp only [treeOk, Bool.and_eq_true, decide_eq_true_eq, beq_iff_eq] at ho
      obtain ⟨⟨⟨⟨hin, hjn⟩, hr⟩, ho1⟩, ho2⟩ := ho
      refine ⟨fun h0 => (by rw [hr] at h0; cases h0), fun q hq => ?_⟩
      have hq' := hq
      rw [hr] at hq'
      simp only [List.mem_cons, List.not_mem_nil, or_false] at hq'
      rcases hq' with rfl | rfl
      · exact wpOp_mono (fun a' w' h' => ⟨fun _ => h'.1, ih _ _ _ _ (inv.set hq hin) h'.1 ho1 h'.2⟩) h.1
      · exact wpOp_mono (fun a' w' h' => ⟨fun _ => h'.1, ih _ _ _ _ (inv.set hq hjn) h'.1 ho2 h'.2⟩) h.2

/-- What all orders of the tree must come to; and on from there. -/
def wpFork (P : Program) (ops : Array Oper) (Q : Exit → Act → World → Prop) (S : World → Prop) (n : Nat) (ds : List Nat) (t : OTree) (post : List (Nat × Bool)) (a : Act) (w : World) : Prop :=
  ∃ R : List Value → World → Prop, wpTree P ops Q S (fun a' w' => ∃ vs, a' = puts a ds vs ∧ R vs w') t a w ∧ ∀ vs w', S w' → R vs w' → wpSeq P ops Q S n post (puts a ds vs) w'

/-- A region that draws its order: some steps, then a tree of orders, then the rest. -/
theorem wp_region_fork {id : Nat} {a : Act} {w : World} (S : World → Prop) (n : Nat) (ds : List Nat) (pre : List (Nat × Bool)) (m : Nat) (t : OTree) (post : List (Nat × Bool)) (L0 L1 : Array Bool)
    (hm : P.follows .mixedOrders = true) (hlen : (pre.length + (m + post.length) == ops.size) = true) (hsel : Region.noSelect ops = true) (ht : tailsB .any ops n = true)
    (ho : stepsOk .any ops n pre (Array.replicate ops.size false) = some L0) (h1 : treeOk .any ops n L1 m t L0 = true)
    (hp : orderOk .any ops n post L1 = true) (hQ : ∀ c a d v w, Q (.panic c) (a.put d v) w → Q (.panic c) a w) (hS : S w.drew)
    (h : wpSteps P ops Q S (wpFork P ops Q S n ds t post) pre a w.drew) : (Code.region id ops true).wp P Q a w := by
  have ht' : Tails .any ops n := by
    unfold tailsB at ht
    simp only [Bool.or_eq_true, beq_iff_eq, Bool.and_eq_true, decide_eq_true_eq] at ht
    exact ht.imp (fun h => h) fun ⟨⟨a, b⟩, c⟩ => ⟨a, b, c⟩
  have hl : pre.length + (m + post.length) = ops.size := by simpa using hlen
  refine wp_region_any hm (wpAny_of_S (n := n) (S := S) _ _ _ _ ?_)
  rw [← hl]
  rw [hl]
  have key := wpSteps_any (P := P) (Q := Q) (S := S) (K := wpFork P ops Q S n ds t post) (L' := L0) (fuel := m + post.length) hsel hQ ht' (fun a w hS inv hk => by
    obtain ⟨R, k1, k3⟩ := hk
    refine wpTree_any hsel hQ ht' ?_ m t L0 a w inv hS h1 k1
    rintro a' w' hS' inv' ⟨vs, rfl, hR⟩
    exact wpSeq_all wpSeq_tail hsel hQ ht' post L1 _ _ inv' hS' hp (k3 vs w' hS' hR))
    pre (Array.replicate ops.size false) a w.drew headInv_start hS ho h
  rw [hl] at key
  exact key

theorem wpTree_done {K : Act → World → Prop} {a : Act} {w : World} (h : K a w) : wpTree P ops Q S K .done a w := h

theorem wpTree_read {K : Act → World → Prop} {l : List Oper} {i : Nat} {t : OTree} {a : Act} {w : World} {o : Oper} (hi : nth l i = some o) (hw : Region.wanted o (yielded l.toArray a.tmps) = true)
    (h : ∃ v, (∀ w, S w → (execOp a.eval o).run P w = .ok (.value v) w) ∧ wpTree P l.toArray Q S K t (a.put o.dst v) w) : wpTree P l.toArray Q S K (.read i t) a w :=
  h.elim fun v hv => ⟨o, v, (nth_eq l i).symm.trans hi, .inl ⟨hw, hv.1⟩, hv.2⟩

theorem wpOp_at {K : Act → World → Prop} {l : List Oper} {i : Nat} {a : Act} {w : World} {o : Oper} (hi : nth l i = some o) (hw : Region.wanted o (yielded l.toArray a.tmps) = true)
    (h : o.wp P a w K Q) : wpOp P l.toArray Q i K a w := by
  unfold wpOp
  simp only [(nth_eq l i).symm.trans hi, hw, if_true]
  exact .inl h

theorem wpTree_one {K : Act → World → Prop} {l : List Oper} {i : Nat} {t : OTree} {a : Act} {w : World} {o : Oper} (hi : nth l i = some o) (hw : Region.wanted o (yielded l.toArray a.tmps) = true)
    (h : o.wp P a w (fun a' w' => S w' ∧ wpTree P l.toArray Q S K t a' w') Q) : wpTree P l.toArray Q S K (.one i t) a w := wpOp_at hi hw h

theorem wpTree_two {K : Act → World → Prop} {l : List Oper} {i j : Nat} {t u : OTree} {a : Act} {w : World} {o o' : Oper} (hi : nth l i = some o) (hw : Region.wanted o (yielded l.toArray a.tmps) = true)
    (hj : nth l j = some o') (hw' : Region.wanted o' (yielded l.toArray a.tmps) = true)
    (h : o.wp P a w (fun a' w' => S w' ∧ wpTree P l.toArray Q S K t a' w') Q) (h' : o'.wp P a w (fun a' w' => S w' ∧ wpTree P l.toArray Q S K u a' w') Q) : wpTree P l.toArray Q S K (.two i t j u) a w := ⟨wpOp_at hi hw h, wpOp_at hj hw' h'⟩

theorem wpSteps_nil {K : Act → World → Prop} {a : Act} {w : World} (h : K a w) : wpSteps P ops Q S K [] a w := h

theorem wpSteps_read {K : Act → World → Prop} {l : List Oper} {i : Nat} {r : List (Nat × Bool)} {a : Act} {w : World} {o : Oper} (hi : nth l i = some o) (hw : Region.wanted o (yielded l.toArray a.tmps) = true)
    (h : ∃ v, (∀ w, S w → (execOp a.eval o).run P w = .ok (.value v) w) ∧ wpSteps P l.toArray Q S K r (a.put o.dst v) w) : wpSteps P l.toArray Q S K ((i, false) :: r) a w :=
  h.elim fun v hv => ⟨o, v, (nth_eq l i).symm.trans hi, .inl ⟨hw, hv.1⟩, hv.2⟩

theorem wpSteps_write {K : Act → World → Prop} {l : List Oper} {i : Nat} {r : List (Nat × Bool)} {a : Act} {w : World} {o : Oper} (hi : nth l i = some o) (hw : Region.wanted o (yielded l.toArray a.tmps) = true)
    (h : o.wp P a w (fun a' w' => S w' ∧ wpSteps P l.toArray Q S K r a' w') Q) : wpSteps P l.toArray Q S K ((i, true) :: r) a w := by
  show wpOp P l.toArray Q i _ a w
  unfold wpOp
  simp only [(nth_eq l i).symm.trans hi, hw, if_true]
  exact .inl h
end

end Go.Proofs.YtamhggndcegndaaDoor
