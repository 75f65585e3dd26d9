/-
  A region that draws its order: some steps, then operations in ANY order of those that the rules let, along an invariant (one proof for each operation, not for each order), then the rest in one order. Plain lemmas over XSeq and XTwo.
-/
import Derived.Test.YtamhggndcegndaaDoorTwo
import Derived.Deep.MidRow
namespace Go.Proofs.YtamhggndcegndaaDoor
open Go
set_option linter.unusedVariables false

section
variable {P : Program} {ops : Array Oper} {Q : Exit → Act → World → Prop} {md : Region.Mode} {S : World → Prop} {n : Nat}

/-- All orders from here on are made of M's operations, m of them, and end where L1 is listed. -/
def anyOk (md : Region.Mode) (ops : Array Oper) (n : Nat) (M : List (Nat × List Nat)) (L1 : Array Bool) : Nat → Array Bool → Bool
  | 0, listed => listed == L1
  | m + 1, listed => !(Region.ready md ops listed).isEmpty && (Region.ready md ops listed).all fun i => decide (i < n) && M.any (fun x => x.1 == i) && anyOk md ops n M L1 m (listed.setIfInBounds i true)

/-- Each operation of M waits for those that stand beside it. -/
def depsOk (md : Region.Mode) (ops : Array Oper) (M : List (Nat × List Nat)) : Bool :=
  M.all fun x => x.2.all fun d => match ops[x.1]? with | none => false | some o => o.after.any fun e => Region.binds md e && e.on == d

def Each : List (Nat × List Nat) → (Nat → List Nat → Prop) → Prop
  | [], _ => True
  | (i, ds) :: r, p => p i ds ∧ Each r p

theorem Each.get {p : Nat → List Nat → Prop} : ∀ {M : List (Nat × List Nat)}, Each M p → ∀ x ∈ M, p x.1 x.2
  | [], _, x, hx => (nomatch hx)
  | (i, ds) :: r, h, x, hx => by
    rcases List.mem_cons.1 hx with rfl | hx
    · exact h.1
    · exact h.2.get x hx

/-- What an operation must do to the invariant. -/
def wpKeeps (P : Program) (ops : Array Oper) (Q : Exit → Act → World → Prop) (S : World → Prop) (Inv : (Nat → Bool) → Act → World → Prop) (i : Nat) (ds : List Nat) : Prop :=
  ∀ (D : Nat → Bool) (a : Act) (w : World), S w → Inv D a w → D i = false → (∀ d ∈ ds, D d = true) → wpOp P ops Q i (fun a' w' => S w' ∧ Inv (fun j => D j || j == i) a' w') a w

def wpInv (P : Program) (ops : Array Oper) (Q : Exit → Act → World → Prop) (S : World → Prop) (n : Nat) (M : List (Nat × List Nat)) (L0 L1 : Array Bool) (post : List (Nat × Bool)) (a : Act) (w : World) : Prop :=
  ∃ Inv : (Nat → Bool) → Act → World → Prop, Inv (fun j => L0.getD j false) a w ∧ Each M (wpKeeps P ops Q S Inv) ∧ ∀ a' w', S w' → Inv (fun j => L1.getD j false) a' w' → wpSeq P ops Q S n post a' w'

theorem wpInv_any {Inv : (Nat → Bool) → Act → World → Prop} {M : List (Nat × List Nat)} {L1 : Array Bool} {fuel : Nat} (hd : depsOk md ops M = true) (hM : Each M (wpKeeps P ops Q S Inv))
    (hK : ∀ a w, S w → HeadInv md ops n L1 → Inv (fun j => L1.getD j false) a w → wpAnyS P md ops Q S n fuel L1 a w) :
    ∀ (m : Nat) (listed : Array Bool) (a : Act) (w : World), HeadInv md ops n listed → S w → anyOk md ops n M L1 m listed = true → Inv (fun j => listed.getD j false) a w → wpAnyS P md ops Q S n (m + fuel) listed a w := by
  intro m
  induction m with
  | zero =>
    intro listed a w inv hS ho h
    simp only [anyOk, beq_iff_eq] at ho
    subst ho
    simpa using hK a w hS inv h
  | succ m ih =>
    intro listed a w inv hS ho h
    rw [Nat.add_right_comm]
    simp only [anyOk, Bool.and_eq_true, Bool.not_eq_true', List.all_eq_true, decide_eq_true_eq, List.any_eq_true, beq_iff_eq] at ho
    obtain ⟨hne, hall⟩ := ho
    refine ⟨fun h0 => (by rw [h0] at hne; simp at hne), fun i hi => ?_⟩
    obtain ⟨⟨hin, x, hx, hxi⟩, ho⟩ := hall i hi
    obtain ⟨hun, o, hoi, haft⟩ := mem_ready.1 hi
    subst hxi
    have hlt : x.1 < listed.size := by
      rcases Nat.lt_or_ge x.1 listed.size with h' | h'
      · exact h'
      · simp [Array.getElem?_eq_none h'] at hun
    have h0 : listed.getD x.1 false = false := by
      simp only [Array.getD_eq_getD_getElem?, Array.getElem?_eq_getElem hlt, Option.getD_some] at hun ⊢
      exact hun
    refine wpOp_mono (fun a' w' h' => ⟨fun _ => h'.1, ih _ _ _ (inv.set hi hin) h'.1 ho ?_⟩) (hM.get x hx _ a w hS h h0 ?_)
    · have e : (fun j => (listed.setIfInBounds x.1 true).getD j false) = fun j => listed.getD j false || j == x.1 := by
        funext j
        by_cases hj : x.1 = j
        · subst hj
          simp [Array.getD_eq_getD_getElem?, hlt]
        · rw [getD_set_ne false hj]
          have : (j == x.1) = false := by simpa using fun e => hj e.symm
          rw [this, Bool.or_false]
      rw [e]
      exact h'.2
    · intro d hdm
      have := List.all_eq_true.1 (List.all_eq_true.1 hd x hx) d hdm
      rw [hoi] at this
      simp only [Array.any_eq_true', Bool.and_eq_true, beq_iff_eq] at this
      obtain ⟨e, he, hb, rfl⟩ := this
      exact haft e he hb

/-- The same, the frame as 'these values put into these slots'. -/
def wpInvs (P : Program) (ops : Array Oper) (Q : Exit → Act → World → Prop) (S : World → Prop) (n : Nat) (ds : List Nat) (M : List (Nat × List Nat)) (L0 L1 : Array Bool) (post : List (Nat × Bool)) (a : Act) (w : World) : Prop :=
  ∃ Inv : (Nat → Bool) → List Value → World → Prop, (∃ vs, a = puts a ds vs ∧ Inv (fun j => L0.getD j false) vs w) ∧
    Each M (fun i deps => ∀ (D : Nat → Bool) (vs : List Value) (w : World), S w → Inv D vs w → D i = false → (∀ d ∈ deps, D d = true) → wpOp P ops Q i (fun a' w' => S w' ∧ ∃ vs', a' = puts a ds vs' ∧ Inv (fun j => D j || j == i) vs' w') (puts a ds vs) w) ∧
    ∀ vs w', S w' → Inv (fun j => L1.getD j false) vs w' → wpSeq P ops Q S n post (puts a ds vs) w'

theorem Each.imp {p q : Nat → List Nat → Prop} (h : ∀ i ds, p i ds → q i ds) : ∀ {M : List (Nat × List Nat)}, Each M p → Each M q
  | [], _ => trivial
  | (i, ds) :: r, hp => ⟨h i ds hp.1, Each.imp h hp.2⟩

theorem wpInvs_inv {ds : List Nat} {M : List (Nat × List Nat)} {L0 L1 : Array Bool} {post : List (Nat × Bool)} {a : Act} {w : World} (h : wpInvs P ops Q S n ds M L0 L1 post a w) : wpInv P ops Q S n M L0 L1 post a w := by
  obtain ⟨Inv, ⟨vs, e, h0⟩, h1, h2⟩ := h
  refine ⟨fun D a' w' => ∃ vs, a' = puts a ds vs ∧ Inv D vs w', ⟨vs, e, h0⟩, h1.imp ?_, ?_⟩
  · rintro i deps hp D a' w' hS ⟨vs, rfl, hI⟩ hD hd
    exact hp D vs w' hS hI hD hd
  · rintro a' w' hS ⟨vs, rfl, hI⟩
    exact h2 vs w' hS hI

theorem wpSteps_mono {K K' : Act → World → Prop} (hK : ∀ a w, K a w → K' a w) : ∀ (r : List (Nat × Bool)) (a : Act) (w : World), wpSteps P ops Q S K r a w → wpSteps P ops Q S K' r a w
  | [], a, w, h => hK a w h
  | (i, false) :: r, a, w, h => by
    obtain ⟨o, v, h1, h2, h3⟩ := h
    exact ⟨o, v, h1, h2, wpSteps_mono hK r _ _ h3⟩
  | (i, true) :: r, a, w, h => wpOp_mono (fun a' w' h' => ⟨h'.1, wpSteps_mono hK r _ _ h'.2⟩) h

/-- A region that draws its order: some steps, then in any order, then the rest. -/
theorem wp_region_inv {id : Nat} {a : Act} {w : World} (S : World → Prop) (n : Nat) (ds : List Nat) (pre : List (Nat × Bool)) (m : Nat) (M : List (Nat × List Nat)) (post : List (Nat × Bool)) (L0 L1 : Array Bool)
    (hm : P.follows .mixedOrders = true) (hlen : (pre.length + (m + post.length) == ops.size) = true) (hsel : Region.noSelect ops = true) (ht : tailsB .any ops n = true)
    (ho : stepsOk .any ops n pre (Array.replicate ops.size false) = some L0) (h1 : anyOk .any ops n M L1 m L0 = true) (hd : depsOk .any ops M = true)
    (hp : orderOk .any ops n post L1 = true) (hQ : ∀ c a d v w, Q (.panic c) (a.put d v) w → Q (.panic c) a w) (hS : S w.drew)
    (h : wpSteps P ops Q S (wpInvs P ops Q S n ds M L0 L1 post) pre a w.drew) : (Code.region id ops true).wp P Q a w := by
  replace h := wpSteps_mono (K' := wpInv P ops Q S n M L0 L1 post) (fun a w h => wpInvs_inv h) _ _ _ h
  have ht' : Tails .any ops n := by
    unfold tailsB at ht
    simp only [Bool.or_eq_true, beq_iff_eq, Bool.and_eq_true, decide_eq_true_eq] at ht
    exact ht.imp (fun h => h) fun ⟨⟨a, b⟩, c⟩ => ⟨a, b, c⟩
  have hl : pre.length + (m + post.length) = ops.size := by simpa using hlen
  refine wp_region_any hm (wpAny_of_S (n := n) (S := S) _ _ _ _ ?_)
  rw [← hl]
  rw [hl]
  have key := wpSteps_any (P := P) (Q := Q) (S := S) (K := wpInv P ops Q S n M L0 L1 post) (L' := L0) (fuel := m + post.length) hsel hQ ht' (fun a w hS inv hk => by
    obtain ⟨Inv, k0, k1, k3⟩ := hk
    refine wpInv_any hd k1 ?_ m L0 a w inv hS h1 k0
    intro a' w' hS' inv' hI
    exact wpSeq_all wpSeq_tail hsel hQ ht' post L1 _ _ inv' hS' hp (k3 a' w' hS' hI))
    pre (Array.replicate ops.size false) a w.drew headInv_start hS ho h
  rw [hl] at key
  exact key

theorem wp_value {o : Oper} {a : Act} {w : World} {K : Act → World → Prop} {v : Value} (h1 : (execOp a.eval o).run P w = .ok (.value v) w) (h : K (a.put o.dst v) w) : o.wp P a w K Q := by
  unfold Oper.wp
  rw [h1]
  exact h

/-- A whole struct or array loaded, on the way. -/
theorem wpSteps_load' {K : Act → World → Prop} {l : List Oper} {i : Nat} {r : List (Nat × Bool)} {a : Act} {w : World} {op : Oper} (hi : nth l i = some op) (hw : Region.wanted op (yielded l.toArray a.tmps) = true)
    (ty : TypeId) (x : Operand) (ho : op.op = .load ty x) (b o : Nat) (hx : a.eval x = .pointer (some ⟨b, o, none⟩)) (cs : List Value) (d : TypeDesc) (hS : ∀ w, S w → w.rangeAt b o cs)
    (hu : P.underlying ty = some d) (hd : d.isRow = true) (hsz : (P.info? ty).map (·.size) = some cs.length)
    (h : wpSteps P l.toArray Q S K r (a.put op.dst (.agg cs.toArray)) w) : wpSteps P l.toArray Q S K ((i, false) :: r) a w :=
  ⟨op, _, (nth_eq l i).symm.trans hi, yieldsIf_load_mid hw ty x ho b o hx cs d hS hu hd hsz, h⟩

/-- The end of an operation's walk as a name. -/
theorem wpOp_hid {i : Nat} {a : Act} {w : World} {K : Act → World → Prop} (h : ∀ K', (∀ a w, K a w → K' a w) → wpOp P ops Q i K' a w) : wpOp P ops Q i K a w := h K fun _ _ h => h
end

end Go.Proofs.YtamhggndcegndaaDoor
