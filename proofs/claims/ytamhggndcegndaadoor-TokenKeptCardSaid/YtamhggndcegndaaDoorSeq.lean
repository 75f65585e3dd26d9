/-
  A region that draws its order, walked in ONE order: reads (whatever yields its value in every world that meets S) are taken as soon as they may come up; what writes comes up alone; the last ones, which wait for all others, need not keep S. Plain lemmas over the kit's Orders and OrdersHeld.
-/
import Derived.OrdersHeld
import Derived.StillTail
namespace Go.Proofs.YtamhggndcegndaaDoor
open Go
set_option linter.unusedVariables false

section
variable {P : Program} {ops : Array Oper} {Q : Exit → Act → World → Prop} {md : Region.Mode} {S : World → Prop} {n : Nat}

/-- As 'wpAnyH', but S is shown anew behind the operations below n alone. -/
def wpAnyS (P : Program) (md : Region.Mode) (ops : Array Oper) (Q : Exit → Act → World → Prop) (S : World → Prop) (n : Nat) : Nat → Array Bool → Act → World → Prop
  | 0, listed, a, w => Region.ready md ops listed = [] ∧ Q .normal a w
  | fuel + 1, listed, a, w =>
    (Region.ready md ops listed = [] → Q .normal a w) ∧
    ∀ i ∈ Region.ready md ops listed, wpOp P ops Q i (fun a' w' => (i < n → S w') ∧ wpAnyS P md ops Q S n fuel (listed.setIfInBounds i true) a' w') a w

theorem wpAny_of_S : ∀ (fuel : Nat) (listed : Array Bool) (a : Act) (w : World), wpAnyS P md ops Q S n fuel listed a w → wpAny P md ops Q fuel listed a w
  | 0, _, _, _, h => h
  | fuel + 1, _, _, _, h => ⟨h.1, fun i hi => wpOp_mono (fun a' w' h' => wpAny_of_S fuel _ a' w' h'.2) (h.2 i hi)⟩

/-- Behind n come only operations that wait for all those ahead of n. -/
def Tails (md : Region.Mode) (ops : Array Oper) (n : Nat) : Prop := n = ops.size ∨ (Region.sinkB md ops n = true ∧ Region.chainB md ops n = true ∧ n < ops.size)

theorem Tails.lt {listed : Array Bool} (ht : Tails md ops n) (inv : HeadInv md ops n listed) {i j : Nat} (hi : i < n) (hun : listed.getD i true = false) (hj : j ∈ Region.ready md ops listed) : j < n := by
  rcases ht with rfl | ⟨hs, hc, hn⟩
  · obtain ⟨_, oj, hoj, _⟩ := mem_ready.1 hj
    exact (Array.getElem?_eq_some_iff.1 hoj).1
  · rcases Nat.lt_or_ge j n with h | h
    · exact h
    · exact absurd hj (tail_waits hs hc hn inv _ i rfl hi hun j h)

theorem wpAnyS_first {i : Nat} {oi : Oper} {v : Value} (hi : ops[i]? = some oi) (hsel : ∀ (j : Nat) (o : Oper) cs b, ops[j]? = some o → o.op ≠ .select cs b)
    (hQ : ∀ c a w, Q (.panic c) (a.put oi.dst v) w → Q (.panic c) a w) (ht : Tails md ops n) (hin : i < n) :
    ∀ (fuel : Nat) (listed : Array Bool) (a : Act) (w : World), HeadInv md ops n listed →
      (∀ j oj, ops[j]? = some oj → j ≠ i → listed.getD j true = false → (∀ e ∈ oj.after, Region.binds md e = true → e.on ≠ i) → oi.apart ops oj = true) →
      i ∈ Region.ready md ops listed → YieldsIf P ops S oi v a → S w →
      wpAnyS P md ops Q S n fuel (listed.setIfInBounds i true) (a.put oi.dst v) w → wpAnyS P md ops Q S n (fuel + 1) listed a w := by
  intro fuel
  induction fuel with
  | zero =>
    intro listed a w inv _ hr hy hS H
    refine ⟨fun h => (by rw [h] at hr; cases hr), fun j hj => ?_⟩
    by_cases hji : j = i
    · subst hji; exact hy.wpOp hi hS ⟨fun _ => hS, H⟩
    · have := ready_mono hj hji
      rw [H.1] at this
      cases this
  | succ fuel ih =>
    intro listed a w inv hfree hr hy hS H
    refine ⟨fun h => (by rw [h] at hr; cases hr), fun j hj => ?_⟩
    by_cases hji : j = i
    · subst hji; exact hy.wpOp hi hS ⟨fun _ => hS, H⟩
    · have hjn : j < n := ht.lt inv hin (mem_ready.1 hr).1 hj
      have h1 := H.2 j (ready_mono hj hji)
      obtain ⟨hjun, oj, hoj, hall⟩ := mem_ready.1 hj
      have hnot : ∀ e ∈ oj.after, Region.binds md e = true → e.on ≠ i := fun e he hb heq => by
        have h1 := hall e he hb
        have h0 := (mem_ready.1 hr).1
        rw [heq] at h1
        rcases Nat.lt_or_ge i listed.size with h' | h'
        · simp [h'] at h0 h1; rw [h0] at h1; cases h1
        · simp [Array.getElem?_eq_none h'] at h1
      have h2 := wpOp_putIf hoj (hfree j oj hoj hji hjun hnot) (fun cs b => hsel i oi cs b hi) (fun cs b => hsel j oj cs b hoj) hQ hy h1
      have hfree' : ∀ k ok, ops[k]? = some ok → k ≠ i → (listed.setIfInBounds j true).getD k true = false →
          (∀ e ∈ ok.after, Region.binds md e = true → e.on ≠ i) → oi.apart ops ok = true := fun k ok hk hki hun hno => by
        refine hfree k ok hk hki ?_ hno
        by_cases hjk : j = k
        · subst hjk; exact hjun
        · rw [getD_set_ne true hjk] at hun; exact hun
      refine wpOp_mono (fun a' w' h3 => ⟨h3.2.1, ih (listed.setIfInBounds j true) a' w' (inv.set hj hjn) hfree' (ready_mono hr (Ne.symm hji)) h3.1 (h3.2.1 hjn) ?_⟩) h2
      rw [Array.setIfInBounds_comm _ _ hji]
      exact h3.2.2

/-- The order in which a region is walked: (number, does it write?); each step is one that the rules let. -/
def orderOk (md : Region.Mode) (ops : Array Oper) (n : Nat) : List (Nat × Bool) → Array Bool → Bool
  | [], listed => (Region.ready md ops listed).isEmpty
  | (i, false) :: r, listed => decide (i < n) && (Region.ready md ops listed).contains i && Region.free md ops listed i && orderOk md ops n r (listed.setIfInBounds i true)
  | (i, true) :: r, listed => (decide (i < n) || r.all fun x => x.2) && (Region.ready md ops listed == [i]) && orderOk md ops n r (listed.setIfInBounds i true)

/-- Number i of a list, so that it is written out as it stands in the list. -/
def nth {α : Type} : List α → Nat → Option α
  | [], _ => none
  | x :: _, 0 => some x
  | _ :: l, i + 1 => nth l i

theorem nth_eq {α : Type} : ∀ (l : List α) (i : Nat), nth l i = l.toArray[i]?
  | [], i => by simp [nth]
  | x :: l, 0 => by simp [nth]
  | x :: l, i + 1 => by simpa [nth] using nth_eq l i

/-- The walk along that order. -/
def wpSeq (P : Program) (ops : Array Oper) (Q : Exit → Act → World → Prop) (S : World → Prop) (n : Nat) : List (Nat × Bool) → Act → World → Prop
  | [], a, w => Q .normal a w
  | (i, false) :: r, a, w => ∃ o v, ops[i]? = some o ∧ YieldsIf P ops S o v a ∧ wpSeq P ops Q S n r (a.put o.dst v) w
  | (i, true) :: r, a, w => wpOp P ops Q i (fun a' w' => (i < n → S w') ∧ wpSeq P ops Q S n r a' w') a w

theorem wpSeq_all (hall : ∀ (r : List (Nat × Bool)) (listed : Array Bool) (a : Act) (w : World), (r.all fun x => x.2) = true → orderOk md ops n r listed = true → wpSeq P ops Q S n r a w → wpAnyS P md ops Q S n r.length listed a w)
    (hsel : Region.noSelect ops = true) (hQ : ∀ c a d v w, Q (.panic c) (a.put d v) w → Q (.panic c) a w) (ht : Tails md ops n) :
    ∀ (r : List (Nat × Bool)) (listed : Array Bool) (a : Act) (w : World), HeadInv md ops n listed → S w → orderOk md ops n r listed = true → wpSeq P ops Q S n r a w → wpAnyS P md ops Q S n r.length listed a w := by
  intro r
  induction r with
  | nil =>
    intro listed a w _ _ ho h
    simp only [orderOk, List.isEmpty_iff] at ho
    exact ⟨ho, h⟩
  | cons x r ih =>
    obtain ⟨i, b⟩ := x
    intro listed a w inv hS ho h
    cases b with
    | false =>
      simp only [orderOk, Bool.and_eq_true, decide_eq_true_eq] at ho
      obtain ⟨⟨⟨hin, hr⟩, hf⟩, ho⟩ := ho
      obtain ⟨o, v, hi, hy, h⟩ := h
      have hr' : i ∈ Region.ready md ops listed := by simpa using hr
      exact wpAnyS_first hi (Region.noSelect_spec hsel) (fun c a w => hQ c a o.dst v w) ht hin r.length listed a w inv (Region.free_spec hi hf) hr' hy hS (ih _ _ _ (inv.set hr' hin) hS ho h)
    | true =>
      by_cases hin : i < n
      · simp only [orderOk, Bool.and_eq_true, beq_iff_eq] at ho
        obtain ⟨⟨_, hr⟩, ho⟩ := ho
        have hr' : i ∈ Region.ready md ops listed := by rw [hr]; simp
        refine ⟨fun h0 => (by rw [hr] at h0; cases h0), fun j hj => ?_⟩
        obtain rfl : j = i := by rw [hr] at hj; simpa using hj
        exact wpOp_mono (fun a' w' h' => ⟨h'.1, ih _ _ _ (inv.set hr' hin) (h'.1 hin) ho h'.2⟩) h
      · have ho' := ho
        simp only [orderOk, Bool.and_eq_true, Bool.or_eq_true, decide_eq_true_eq, hin, false_or] at ho
        exact hall ((i, true) :: r) listed a w (by simpa using ho.1.1) ho' h

theorem wpSeq_tail : ∀ (r : List (Nat × Bool)) (listed : Array Bool) (a : Act) (w : World), (r.all fun x => x.2) = true → orderOk md ops n r listed = true → wpSeq P ops Q S n r a w → wpAnyS P md ops Q S n r.length listed a w
  | [], listed, a, w, _, ho, h => by
    simp only [orderOk, List.isEmpty_iff] at ho
    exact ⟨ho, h⟩
  | (i, false) :: r, _, _, _, ha, _, _ => by simp at ha
  | (i, true) :: r, listed, a, w, ha, ho, h => by
    simp only [orderOk, Bool.and_eq_true, beq_iff_eq] at ho
    obtain ⟨⟨_, hr⟩, ho⟩ := ho
    refine ⟨fun h0 => (by rw [hr] at h0; cases h0), fun j hj => ?_⟩
    obtain rfl : j = i := by rw [hr] at hj; simpa using hj
    exact wpOp_mono (fun a' w' h' => ⟨h'.1, wpSeq_tail r _ _ _ (by simpa using ha) ho h'.2⟩) h

theorem headInv_start : HeadInv md ops n (Array.replicate ops.size false) :=
  ⟨by simp, fun j oj hj hl => (by rw [getD_replicate_false] at hl; cases hl), fun t h1 h2 => by simp [h2]⟩

/-- Are those behind n such as 'Tails' wants? -/
def tailsB (md : Region.Mode) (ops : Array Oper) (n : Nat) : Bool := n == ops.size || (Region.sinkB md ops n && Region.chainB md ops n && decide (n < ops.size))

/-- A region that draws its order, in one order. -/
theorem wp_region_seq {id : Nat} {a : Act} {w : World} (S : World → Prop) (n : Nat) (r : List (Nat × Bool)) (hm : P.follows .mixedOrders = true) (hlen : (r.length == ops.size) = true) (hsel : Region.noSelect ops = true) (ht : tailsB .any ops n = true)
    (ho : orderOk .any ops n r (Array.replicate ops.size false) = true) (hQ : ∀ c a d v w, Q (.panic c) (a.put d v) w → Q (.panic c) a w) (hS : S w.drew)
    (h : wpSeq P ops Q S n r a w.drew) : (Code.region id ops true).wp P Q a w := by
  have ht' : Tails .any ops n := by
    unfold tailsB at ht
    simp only [Bool.or_eq_true, beq_iff_eq, Bool.and_eq_true, decide_eq_true_eq] at ht
    exact ht.imp (fun h => h) fun ⟨⟨a, b⟩, c⟩ => ⟨a, b, c⟩
  have hl : r.length = ops.size := by simpa using hlen
  refine wp_region_any hm (wpAny_of_S (n := n) (S := S) _ _ _ _ ?_)
  rw [← hl]
  rw [hl]
  have := wpSeq_all wpSeq_tail hsel hQ ht' r (Array.replicate ops.size false) a w.drew headInv_start hS ho h
  rw [hl] at this
  exact this

theorem wpSeq_nil {a : Act} {w : World} (h : Q .normal a w) : wpSeq P ops Q S n [] a w := h

theorem wpSeq_read {l : List Oper} {i : Nat} {r : List (Nat × Bool)} {a : Act} {w : World} {o : Oper} (hi : nth l i = some o) (hw : Region.wanted o (yielded l.toArray a.tmps) = true)
    (h : ∃ v, (∀ w, S w → (execOp a.eval o).run P w = .ok (.value v) w) ∧ wpSeq P l.toArray Q S n r (a.put o.dst v) w) : wpSeq P l.toArray Q S n ((i, false) :: r) a w :=
  h.elim fun v hv => ⟨o, v, (nth_eq l i).symm.trans hi, .inl ⟨hw, hv.1⟩, hv.2⟩

theorem wpSeq_skip {l : List Oper} {i : Nat} {r : List (Nat × Bool)} {a : Act} {w : World} {o : Oper} (hi : nth l i = some o) (hw : Region.wanted o (yielded l.toArray a.tmps) = false)
    (h : wpSeq P l.toArray Q S n r (a.put o.dst undef) w) : wpSeq P l.toArray Q S n ((i, false) :: r) a w := ⟨o, undef, (nth_eq l i).symm.trans hi, .inr ⟨hw, rfl⟩, h⟩

theorem wpSeq_write {l : List Oper} {i : Nat} {r : List (Nat × Bool)} {a : Act} {w : World} {o : Oper} (hi : nth l i = some o) (hw : Region.wanted o (yielded l.toArray a.tmps) = true)
    (h : o.wp P a w (fun a' w' => (i < n → S w') ∧ wpSeq P l.toArray Q S n r a' w') Q) : wpSeq P l.toArray Q S n ((i, true) :: r) a w := by
  show wpOp P l.toArray Q i _ a w
  unfold wpOp
  simp only [(nth_eq l i).symm.trans hi, hw, if_true]
  exact .inl h
/-- In a plain region: an operation that only yields a value. -/
theorem wpList_read {o : Oper} {rest : List Oper} {a : Act} {w : World} (hw : Region.wanted o (yielded ops a.tmps) = true)
    (h : ∃ v, (execOp a.eval o).run P w = .ok (.value v) w ∧ wpList P ops Q rest (a.put o.dst v) w) : wpList P ops Q (o :: rest) a w := by
  obtain ⟨v, h1, h2⟩ := h
  unfold wpList
  rw [if_pos hw]
  refine .inl ?_
  unfold Oper.wp
  rw [h1]
  exact h2
end

end Go.Proofs.YtamhggndcegndaaDoor
