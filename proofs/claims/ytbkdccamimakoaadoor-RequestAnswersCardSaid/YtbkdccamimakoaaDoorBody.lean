/-
  request: a request's body; its bytes.
-/
import Derived.Test.YtbkdccamimakoaaDoorReq
namespace Go.Proofs.YtbkdccamimakoaaDoor
open Go.RowKit
set_option linter.unusedVariables false

theorem request_byted (v : Int) (w : World) :
    Calls Tryd.prog 44 #[.int .i64 v] w fun e w' => e = .returned (.bool (decide (0 ≤ v ∧ v ≤ 255))) ∧ w = w' := by
  by_cases h0 : 0 ≤ v
  · by_cases h1 : v ≤ 255
    · go_enter Tryd.func44, Tryd.ntmps44
      go_wp2
      go_ret
      exact ⟨ret_bool' (by simp [h0, h1]), rfl⟩
    · go_enter Tryd.func44, Tryd.ntmps44
      go_wp2
      go_ret
      exact ⟨ret_bool' (by simp [h0, h1]), rfl⟩
  · go_enter Tryd.func44, Tryd.ntmps44
    go_wp2
    go_ret
    exact ⟨ret_bool' (by simp; omega), rfl⟩

/-- The number that a field names. -/
def Req.num (R : Req) (o : Nat) : Int :=
  match o with
  | 35 => R.tree | 36 => R.tenant | 37 => R.role | 38 => R.state | 39 => R.weight | 40 => R.id | 41 => R.lo | 42 => R.hi | 43 => R.rate | 44 => R.burst | 45 => R.store | 46 => R.expires | _ => 0

/-- Why a field is refused (0: it is not). -/
def fldWhy (R : Req) (f : Fld) : Nat :=
  if f.2.1 = 1 then (if 0 ≤ R.num f.2.2 ∧ R.num f.2.2 ≤ 255 then 0 else 1)
  else if f.2.1 = 2 ∨ f.2.1 = 3 then 0
  else if 256 < R.leaf.length then 3 else 0

/-- A field's bytes. -/
def fldB (R : Req) (f : Fld) : List Nat :=
  if f.2.1 = 1 ∨ f.2.1 = 2 ∨ f.2.1 = 3 then be (R.num f.2.2).toNat f.1 else txt R.leaf

def bodyGo (R : Req) : List Fld → List Nat → Nat × List Nat
  | [], acc => (0, acc)
  | f :: l, acc => if fldWhy R f = 0 then bodyGo R l (acc ++ fldB R f) else (fldWhy R f, [])

/-- A request's body: why not, or its bytes. -/
def bodyRes (R : Req) : Nat × List Nat :=
  match fieldsOf R.op with
  | none => (1, [])
  | some l => bodyGo R l (be R.op.toNat 1)

theorem bodyGo_end (R : Req) (l : List Fld) (k : Nat) (acc : List Nat) (h : ∀ f ∈ l.take k, fldWhy R f = 0) : bodyGo R l acc = bodyGo R (l.drop k) (acc ++ (l.take k).flatMap (fldB R)) := by
  induction l generalizing k acc with
  | nil => simp [bodyGo]
  | cons f l ih =>
    cases k with
    | zero => simp
    | succ k =>
      rw [List.take_succ_cons] at h
      rw [bodyGo, if_pos (h f (by simp)), ih k _ (fun x hx => h x (by simp [hx]))]
      simp

theorem bodyGo_bad (R : Req) (l : List Fld) (k : Nat) (f : Fld) (acc : List Nat) (h : ∀ f ∈ l.take k, fldWhy R f = 0) (hk : l[k]? = some f) (hf : fldWhy R f ≠ 0) : bodyGo R l acc = (fldWhy R f, []) := by
  rw [bodyGo_end R l k acc h]
  have hlt : k < l.length := by
    rcases Nat.lt_or_ge k l.length with h | h
    · exact h
    · rw [List.getElem?_eq_none h] at hk; cases hk
  rw [List.drop_eq_getElem_cons hlt]
  have : l[k] = f := by rw [List.getElem?_eq_getElem hlt] at hk; simpa using hk
  rw [this, bodyGo, if_neg hf]

theorem fldvs_at (g : Nat) (l : List Fld) (k : Nat) (f : Fld) (h : l[k]? = some f) (j : Nat) (hj : j < 4) : (fldvs g l)[k * 4 + j]? = (fldv g f)[j]? := by
  have h4 : ∀ f, (fldv g f).length = 4 := by intro f; unfold fldv; split <;> (try split) <;> (try split) <;> rfl
  unfold fldvs
  induction l generalizing k with
  | nil => simp at h
  | cons y l ih =>
    rw [List.flatMap_cons]
    cases k with
    | zero => simp at h; subst h; rw [List.getElem?_append_left (by rw [h4]; omega)]; simp
    | succ k =>
      rw [List.getElem?_append_right (by rw [h4]; omega), h4, ← ih k (by simpa using h)]
      congr 1
      omega

/-- The fields that are. -/
def IsFld (f : Fld) : Prop := f = (1, 1, 35) ∨ f = (1, 1, 36) ∨ f = (1, 1, 37) ∨ f = (1, 1, 38) ∨ f = (1, 1, 39) ∨ f = (4, 2, 40) ∨ f = (8, 3, 41) ∨ f = (8, 3, 42) ∨ f = (4, 2, 43) ∨ f = (4, 2, 44) ∨ f = (4, 2, 45) ∨ f = (8, 3, 46) ∨ f = (0, 0, 0)

theorem isFld (op : Int) (l : List Fld) (hl : fieldsOf op = some l) (f : Fld) (hf : f ∈ l) : IsFld f := by
  unfold fieldsOf at hl
  repeat' split at hl
  all_goals simp only [Option.some.injEq, reduceCtorEq] at hl
  all_goals subst hl
  all_goals simp only [List.mem_cons, List.not_mem_nil, or_false] at hf
  all_goals unfold IsFld
  all_goals first | (rcases hf with rfl | rfl | rfl | rfl <;> simp) | (rcases hf with rfl | rfl | rfl <;> simp) | (rcases hf with rfl | rfl <;> simp) | (subst hf; simp)

/-- What the fields of an operation are. -/
theorem fld_cells (R : Req) (cav leafv : Value) (ht : R.tag.length = 32) (op : Int) (l : List Fld) (hl : fieldsOf op = some l) (f : Fld) (hf : f ∈ l) :
    (f.2.1 = 1 ∧ f.1 = 1 ∧ (reqv R cav leafv)[f.2.2]? = some (.int .i64 (R.num f.2.2))) ∨ (f.2.1 = 2 ∧ f.1 = 4 ∧ 0 ≤ R.num f.2.2 ∧ (reqv R cav leafv)[f.2.2]? = some (.int .u32 (R.num f.2.2))) ∨ (f.2.1 = 3 ∧ f.1 = 8 ∧ 0 ≤ R.num f.2.2 ∧ (reqv R cav leafv)[f.2.2]? = some (.int .u64 (R.num f.2.2))) ∨ f = (0, 0, 0) := by
  have hr := reqv_rest R cav leafv ht
  have q : ∀ o k, o = 35 + k → (reqv R cav leafv)[o]? = (R.rest leafv)[k]? := fun o k e => by rw [e]; exact hr k
  have h := isFld op l hl f hf
  clear hf hl
  unfold IsFld at h
  focus
    rcases h with rfl | rfl | rfl | rfl | rfl | rfl | rfl | rfl | rfl | rfl | rfl | rfl | rfl
    · exact .inl ⟨rfl, rfl, q 35 0 rfl⟩
    · exact .inl ⟨rfl, rfl, q 36 1 rfl⟩
    · exact .inl ⟨rfl, rfl, q 37 2 rfl⟩
    · exact .inl ⟨rfl, rfl, q 38 3 rfl⟩
    · exact .inl ⟨rfl, rfl, q 39 4 rfl⟩
    · exact .inr (.inl ⟨rfl, rfl, Int.natCast_nonneg _, q 40 5 rfl⟩)
    · exact .inr (.inr (.inl ⟨rfl, rfl, Int.natCast_nonneg _, q 41 6 rfl⟩))
    · exact .inr (.inr (.inl ⟨rfl, rfl, Int.natCast_nonneg _, q 42 7 rfl⟩))
    · exact .inr (.inl ⟨rfl, rfl, Int.natCast_nonneg _, q 43 8 rfl⟩)
    · exact .inr (.inl ⟨rfl, rfl, Int.natCast_nonneg _, q 44 9 rfl⟩)
    · exact .inr (.inl ⟨rfl, rfl, Int.natCast_nonneg _, q 45 10 rfl⟩)
    · exact .inr (.inr (.inl ⟨rfl, rfl, Int.natCast_nonneg _, q 46 11 rfl⟩))
    · exact .inr (.inr (.inr rfl))

/-- The fields are few. -/
theorem fields_len (op : Int) (l : List Fld) (hl : fieldsOf op = some l) : 1 ≤ op ∧ op ≤ 12 ∧ l.length ≤ 4 := by
  unfold fieldsOf at hl
  repeat' split at hl
  all_goals simp only [Option.some.injEq, reduceCtorEq] at hl
  all_goals (subst hl; refine ⟨?_, ?_, ?_⟩ <;> first | omega | simp)

theorem Wri.drew {w : World} {B g : Nat} {bs : List Nat} (h : Wri w B g bs) : Wri w.drew B g bs := h.kept_call ((Below.refl _ _).drew)

theorem Wri.lt {w : World} {B g : Nat} {bs : List Nat} (h : Wri w B g bs) : g < w.heap.size := by
  obtain ⟨v, h, -, -⟩ := h
  exact h.lt

theorem body_step (R : Req) (l : List Fld) (k : Nat) (f : Fld) (hx : l[k]? = some f) (hall : ∀ f ∈ l.take k, fldWhy R f = 0) (hf : fldWhy R f = 0) {bs : List Nat} (hb : fldB R f = bs) (acc : List Nat) :
    (∀ f ∈ l.take (k + 1), fldWhy R f = 0) ∧ acc ++ (l.take (k + 1)).flatMap (fldB R) = acc ++ (l.take k).flatMap (fldB R) ++ bs := by
  rw [List.take_add_one, hx]
  refine ⟨fun y hy => ?_, by simp [hb]⟩
  rcases List.mem_append.1 hy with h | h
  · exact hall y h
  · simp at h; rw [h]; exact hf

theorem fldB_len (R : Req) (f : Fld) (h : IsFld f) : (fldB R f).length ≤ 65540 := by
  have ht : (txt R.leaf).length ≤ 65540 := by
    unfold txt
    rw [List.length_append, be_length, List.length_take]
    omega
  have hb : ∀ a s, s ≤ 8 → (be a s).length ≤ 65540 := fun a s h => by rw [be_length]; omega
  unfold IsFld at h
  rcases h with rfl | rfl | rfl | rfl | rfl | rfl | rfl | rfl | rfl | rfl | rfl | rfl | rfl <;> unfold fldB <;> simp <;> first | exact ht | exact hb _ _ (by omega)

theorem body_len (R : Req) (n : Nat) (l : List Fld) (h : ∀ f ∈ l, IsFld f) (hl : l.length ≤ 4) (k : Nat) : (be n 1 ++ (l.take k).flatMap (fldB R)).length ≤ 4294967296 := by
  have key : ∀ l : List Fld, (∀ f ∈ l, IsFld f) → (l.flatMap (fldB R)).length ≤ 65540 * l.length := by
    intro l
    induction l with
    | nil => intro _; simp
    | cons f l ih =>
      intro h
      rw [List.flatMap_cons, List.length_append, List.length_cons]
      have h1 := fldB_len R f (h f (by simp))
      have h2 := ih fun g hg => h g (by simp [hg])
      omega
  have h1 := key (l.take k) fun f hf => h f (List.mem_of_mem_take hf)
  have h2 : (l.take k).length ≤ l.length := by rw [List.length_take]; omega
  rw [List.length_append, be_length]
  omega

/-- The numbers of a request are numbers of their kinds. -/
structure Req.Fit (R : Req) : Prop where
  tag : R.tag.length = 32
  num : ∀ o, R.num o < 18446744073709551616

set_option maxRecDepth 100000 in
set_option maxHeartbeats 1600000 in
theorem request_body (R : Req) (cav : Value) (Al : Option Addr) (cl : Nat) (w : World) (hR : R.Fit) (hleaf : Reads w w.heap.size 1 Al R.leaf.length (byv R.leaf)) (hlc : R.leaf.length ≤ cl) (hc : cl ≤ maxLen) :
    Calls Tryd.prog 23 #[.agg (reqv R cav (.slice Al R.leaf.length cl)).toArray] w fun e w' => ∃ v, e = .returned (.tuple #[v, .int .i64 ((bodyRes R).1 : Int)]) ∧ w'.ownsRow w.heap.size 5 1 v (bodyRes R).2.length (byv (bodyRes R).2) ∧ Below w.heap.size w w' := by
  unfold maxLen at hc
  have hfc := fld_cells R cav (.slice Al R.leaf.length cl) hR.tag R.op
  have hd47 := reqv_rest R cav (.slice Al R.leaf.length cl) hR.tag 12
  have hd0 : (reqv R cav (.slice Al R.leaf.length cl))[0]? = some (.int .i64 R.op) := rfl
  rw [show (R.rest (.slice Al R.leaf.length cl))[12]? = some (.slice Al R.leaf.length cl) from rfl] at hd47
  obtain ⟨D, hD⟩ : ∃ D, (reqv R cav (.slice Al R.leaf.length cl)).toArray = D := ⟨_, rfl⟩
  have hat : ∀ i, (reqv R cav (.slice Al R.leaf.length cl))[i]? = D[i]? := fun i => by rw [← hD]; exact List.getElem?_toArray.symm
  rw [hat] at hd47 hd0
  simp only [hat] at hfc
  rw [hD]
  have HFC := Lib.hid hfc
  clear hfc hat hD
  have e1 : sizeN 1 = 1 := rfl
  have e4 : sizeN 4 = 4 := rfl
  have e8 : sizeN 8 = 8 := rfl
  go_enter Tryd.func23, Tryd.ntmps23
  go_wp2_with fail
  have t0 : Blk (w.alloc (.cells D 32)) w.heap.size 32 D := Blk.new w _ D
  refine (request_fields w.heap.size D R.op _ t0 hd0).mono ?_
  rintro e w1 ⟨v, rfl, hown, hb1⟩
  have B1 := below_call (below_new (Below.refl w.heap.size w) (.cells D 32)) hb1
  have t1 := t0.below hb1 t0.lt
  have hz0 : (w.alloc (.cells D 32)).heap.size = w.heap.size + 1 := by simp
  rw [hz0] at hb1
  have hlf1 := (hleaf.alloc (Nat.le_refl _) (.cells D 32)).below (hb1.mono (Nat.le_succ _))
  obtain ⟨o, ho⟩ : ∃ o, fieldsOf R.op = o := ⟨_, rfl⟩
  rw [ho] at hown ⊢
  cases o with
  | none =>
    have H : Hid (bodyRes R = (1, [])) := by unfold Hid bodyRes; rw [ho]
    go_wp2
    go_ret2
    exact ⟨_, by rw [H.out]; rfl, by rw [H.out]; exact World.ownsRow_nil .., B1⟩
  | some l =>
    have H : Hid (bodyRes R = bodyGo R l (be R.op.toNat 1)) := by unfold Hid bodyRes; rw [ho]
    obtain ⟨o1, o2, hl4⟩ := fields_len R.op l ho
    simp only [Option.getD_some, Option.isSome_some] at hown ⊢
    obtain ⟨A, c, rfl, hnc, hcm, hr1⟩ := own_slice hown
    go_wp2_with fail
    refine (new_writer _).mono ?_
    rintro e w2 ⟨rfl, hw2, hb2⟩
    obtain ⟨W, hW⟩ : ∃ W, w1.heap.size = W := ⟨_, rfl⟩
    rw [hW] at hw2 hr1
    have hWl : w.heap.size < W := by have := t1.lt; omega
    have hb2' : Below W w1 w2 := by rw [← hW]; exact hb2
    rw [hW]
    have B2 := B1.trans (hb2'.mono (by omega))
    have t2 := t1.below hb2' hWl
    have hr2 := hr1.below hb2'
    have hlf2 := hlf1.below (hb2'.mono (by omega))
    clear hb2 hb2' t0 t1 hb1 hown hr1 hlf1 hleaf
    obtain ⟨n, hn⟩ : ∃ n : Nat, R.op = (n : Int) := ⟨R.op.toNat, by omega⟩
    have hn' : R.op.toNat = n := by omega
    rw [hn'] at H
    rw [hn] at o1 o2 hd0
    have c0 := t2.cell 0
    rw [hd0] at c0
    go_wp2_with fail
    refine (writer_number W W n 1 [] _ hw2 (by omega) (by simp)).mono ?_
    rintro e w3 ⟨rfl, hw3, hb3, -⟩
    rw [e1, List.nil_append] at hw3
    have B3 := B2.trans (hb3.mono (by omega))
    have t3 := t2.below hb3 hWl
    have hr3 := hr2.below hb3
    have hlf3 := hlf2.below (hb3.mono (by omega))
    clear hw2 hb3 t2 hr2 hlf2 c0 B2
    go_wp2
    go_loopw [23] (fun i wr => ∃ k : Nat, k ≤ l.length ∧ i = .int .i64 k ∧ (∀ f ∈ l.take k, fldWhy R f = 0) ∧ Wri wr W W (be n 1 ++ (l.take k).flatMap (fldB R)) ∧ Below W w3 wr) (fun i _ => l.length - (intOf i).toNat)
    case atStart => exact ⟨0, by omega, rfl, by simp, by simpa using hw3, Below.refl _ _⟩
    case round =>
      obtain ⟨k, hk, rfl, hall, hwr, hbr⟩ := hrel
      have tr := t3.below hbr hWl
      have hrr := hr3.below hbr
      have hlr := hlf3.below (hbr.mono (by omega))
      have Hall := Lib.hid hall
      clear hall t3 hr3 hw3 hlf3
      have HLEN := Lib.hid (body_len R n l (fun f hf => isFld R.op l ho f hf) hl4)
      by_cases hlt : k < l.length
      · have hx : l[k]? = some l[k] := List.getElem?_eq_getElem hlt
        obtain ⟨f, hfe⟩ : ∃ f, l[k] = f := ⟨_, rfl⟩
        rw [hfe] at hx
        clear hfe
        have q := fldvs_at w.heap.size l k f hx
        have hF := HFC.out l ho f (List.mem_of_getElem? hx)
        obtain ⟨b, o, rfl, hab, hcell⟩ := hrr.mid (by omega) (by omega)
        have Hx := Lib.hid hx
        have Ho := Lib.hid ho
        clear hx ho hrr
        rcases hF with ⟨f1, f2, f3⟩ | ⟨f1, f2, f3, f4⟩ | ⟨f1, f2, f3, f4⟩ | rfl
        · have m0 := hcell (k * 4 + 0) _ ((q 0 (by omega)).trans (by unfold fldv; rw [if_pos f1]; rfl))
          have m1 := hcell (k * 4 + 1) _ ((q 1 (by omega)).trans (by unfold fldv; rw [if_pos f1]; rfl))
          have m2 := hcell (k * 4 + 2) _ ((q 2 (by omega)).trans (by unfold fldv; rw [if_pos f1]; rfl))
          have m3 := hcell (k * 4 + 3) _ ((q 3 (by omega)).trans (by unfold fldv; rw [if_pos f1]; rfl))
          clear q hcell
          rw [f2] at m0
          simp only [← Nat.add_assoc, Nat.add_zero] at m0 m1 m2 m3
          obtain ⟨g, q, x⟩ := f
          simp only at f1 f2 f3 m0 m1 m2 m3
          subst f1 f2
          have cx := tr.cell x
          rw [f3] at cx
          have hgl := tr.lt
          go_wp2_with fail
          refine (request_byted _ _).mono ?_
          rintro e w4 ⟨rfl, rfl⟩
          by_cases hb : 0 ≤ R.num x ∧ R.num x ≤ 255
          · obtain ⟨m, hm⟩ : ∃ m : Nat, R.num x = (m : Int) := ⟨(R.num x).toNat, by omega⟩
            have Hst : Hid ((∀ f ∈ l.take (k + 1), fldWhy R f = 0) ∧ be n 1 ++ (l.take (k + 1)).flatMap (fldB R) = be n 1 ++ (l.take k).flatMap (fldB R) ++ be m 1) := by
              refine body_step R l k _ Hx.out Hall.out ?_ ?_ _
              · simp [fldWhy, hb]
              · simp [fldB, hm]
            rw [hm] at hb cx
            rw [hm, decide_eq_true hb]
            go_wp2_with fail
            have hwa := (hwr.kept_call ((Below.refl _ _).alloc (Nat.le_refl _) (.cells #[.int .i64 1, .pointer (some ⟨w.heap.size, x, none⟩), .pointer none, .pointer none] 82))).drew
            have hsz : W ≤ wr.heap.size := by have := hbr.size; have := hwr.lt; omega
            obtain ⟨S, HS⟩ : ∃ S : World → Prop, Hid (∀ w', S w' = (w'.cell? ⟨wr.heap.size, 0, none⟩ = some (.int .i64 1) ∧ w'.cell? ⟨wr.heap.size, 1, none⟩ = some (.pointer (some ⟨w.heap.size, x, none⟩)) ∧ w'.cell? ⟨w.heap.size, x, none⟩ = some (.int .i64 (m : Int)))) := ⟨_, fun _ => rfl⟩
            refine wp_region_seq S 8 [(0, false), (1, false), (2, false), (3, false), (4, false), (5, false), (6, false), (7, false), (8, true)] (by kernel_rfl) rfl (by kernel_rfl) (by kernel_rfl) (by kernel_rfl) (fun _ _ d _ _ h => by cases d <;> exact h) ((HS.out _).mpr ⟨cell_made wr _ _ 0, cell_made wr _ _ 1, cell_new cx _⟩) ?_
            repeat (refine wpSeq_read rfl rfl ⟨?_, fun w1 hS => ?_, ?_⟩; rotate_left; (focus (rw [HS.out] at hS; go_split_ands; go_simp; (try go_bits); try rfl)); simp only [Act.put, List.setIfInBounds_toArray, List.set_cons_zero, List.set_cons_succ])
            refine wpSeq_write rfl rfl ?_
            go_simp
            refine (writer_number W W m 1 _ _ hwa (by omega) (HLEN.out k)).mono ?_
            rintro e w5 ⟨rfl, hw5, hb5, -⟩
            rw [e1, ← Hst.out.2] at hw5
            have HW := Lib.hid hw5
            have HB := Lib.hid ((hbr.alloc hsz (.cells #[.int .i64 1, .pointer (some ⟨w.heap.size, x, none⟩), .pointer none, .pointer none] 82)).drew.trans hb5)
            clear hw5 hb5 hwr hbr tr hwa HS m0 m1 m2 m3 cx
            go_simp
            refine wpSeq_nil ?_
            go_wp2
            go_roundw
            case rel => exact ⟨k + 1, by omega, by go_num, Hst.out.1, HW.out, HB.out⟩
            case measure => simp [intOf]; omega
          · have Hst : Hid (bodyRes R = (1, [])) := by
              unfold Hid
              rw [H.out, bodyGo_bad R l k _ _ Hall.out Hx.out]
              · simp [fldWhy, hb]
              · simp [fldWhy, hb]
            rw [decide_eq_false hb]
            have HB := Lib.hid ((B3.trans (hbr.mono (by omega))).alloc (by have := hbr.size; omega) (.cells #[.int .i64 1, .pointer (some ⟨w.heap.size, x, none⟩), .pointer none, .pointer none] 82))
            go_wp2
            go_ret2
            exact ⟨_, by rw [Hst.out]; rfl, by rw [Hst.out]; exact World.ownsRow_nil .., HB.out⟩
        · obtain ⟨g, q0, x⟩ := f
          simp only at f1 f2 f3 f4
          subst f1 f2
          have m0 := hcell (k * 4 + 0) _ ((q 0 (by omega)).trans rfl)
          have m1 := hcell (k * 4 + 1) _ ((q 1 (by omega)).trans rfl)
          have m2 := hcell (k * 4 + 2) _ ((q 2 (by omega)).trans rfl)
          have m3 := hcell (k * 4 + 3) _ ((q 3 (by omega)).trans rfl)
          clear q hcell
          simp only [← Nat.add_assoc, Nat.add_zero] at m0 m1 m2 m3
          have cx := tr.cell x
          rw [f4] at cx
          have hgl := tr.lt
          obtain ⟨m, hm⟩ : ∃ m : Nat, R.num x = (m : Int) := ⟨(R.num x).toNat, by omega⟩
          have hm64 := hR.num x
          have Hst : Hid ((∀ f ∈ l.take (k + 1), fldWhy R f = 0) ∧ be n 1 ++ (l.take (k + 1)).flatMap (fldB R) = be n 1 ++ (l.take k).flatMap (fldB R) ++ be m 4) := by
            refine body_step R l k _ Hx.out Hall.out ?_ ?_ _
            · simp [fldWhy]
            · simp [fldB, hm]
          rw [hm] at cx hm64
          go_wp2_with fail
          have hwa := (hwr.kept_call ((Below.refl _ _).alloc (Nat.le_refl _) (.cells #[.int .i64 4, .pointer none, .pointer (some ⟨w.heap.size, x, none⟩), .pointer none] 82))).drew
          have hsz : W ≤ wr.heap.size := by have := hbr.size; have := hwr.lt; omega
          obtain ⟨S, HS⟩ : ∃ S : World → Prop, Hid (∀ w', S w' = (w'.cell? ⟨wr.heap.size, 0, none⟩ = some (.int .i64 4) ∧ w'.cell? ⟨wr.heap.size, 2, none⟩ = some (.pointer (some ⟨w.heap.size, x, none⟩)) ∧ w'.cell? ⟨w.heap.size, x, none⟩ = some (.int .u32 (m : Int)))) := ⟨_, fun _ => rfl⟩
          refine wp_region_seq S 8 [(0, false), (1, false), (2, false), (3, false), (4, false), (5, false), (6, false), (7, false), (8, true)] (by kernel_rfl) rfl (by kernel_rfl) (by kernel_rfl) (by kernel_rfl) (fun _ _ d _ _ h => by cases d <;> exact h) ((HS.out _).mpr ⟨cell_made wr _ _ 0, cell_made wr _ _ 2, cell_new cx _⟩) ?_
          repeat (refine wpSeq_read rfl rfl ⟨?_, fun w1 hS => ?_, ?_⟩; rotate_left; (focus (rw [HS.out] at hS; go_split_ands; go_simp; (try go_bits); try rfl)); simp only [Act.put, List.setIfInBounds_toArray, List.set_cons_zero, List.set_cons_succ])
          refine wpSeq_write rfl rfl ?_
          go_simp
          refine (writer_number W W m 4 _ _ hwa (by omega) (HLEN.out k)).mono ?_
          rintro e w5 ⟨rfl, hw5, hb5, -⟩
          rw [e4, ← Hst.out.2] at hw5
          have HW := Lib.hid hw5
          have HB := Lib.hid ((hbr.alloc hsz (.cells #[.int .i64 4, .pointer none, .pointer (some ⟨w.heap.size, x, none⟩), .pointer none] 82)).drew.trans hb5)
          clear hw5 hb5 hwr hbr tr hwa HS m0 m1 m2 m3 cx
          go_simp
          refine wpSeq_nil ?_
          go_wp2
          go_roundw
          case rel => exact ⟨k + 1, by omega, by go_num, Hst.out.1, HW.out, HB.out⟩
          case measure => simp [intOf]; omega
        · obtain ⟨g, q0, x⟩ := f
          simp only at f1 f2 f3 f4
          subst f1 f2
          have m0 := hcell (k * 4 + 0) _ ((q 0 (by omega)).trans rfl)
          have m1 := hcell (k * 4 + 1) _ ((q 1 (by omega)).trans rfl)
          have m2 := hcell (k * 4 + 2) _ ((q 2 (by omega)).trans rfl)
          have m3 := hcell (k * 4 + 3) _ ((q 3 (by omega)).trans rfl)
          clear q hcell
          simp only [← Nat.add_assoc, Nat.add_zero] at m0 m1 m2 m3
          have cx := tr.cell x
          rw [f4] at cx
          have hgl := tr.lt
          obtain ⟨m, hm⟩ : ∃ m : Nat, R.num x = (m : Int) := ⟨(R.num x).toNat, by omega⟩
          have hm64 := hR.num x
          have Hst : Hid ((∀ f ∈ l.take (k + 1), fldWhy R f = 0) ∧ be n 1 ++ (l.take (k + 1)).flatMap (fldB R) = be n 1 ++ (l.take k).flatMap (fldB R) ++ be m 8) := by
            refine body_step R l k _ Hx.out Hall.out ?_ ?_ _
            · simp [fldWhy]
            · simp [fldB, hm]
          rw [hm] at cx hm64
          go_wp2_with fail
          have hwa := (hwr.kept_call ((Below.refl _ _).alloc (Nat.le_refl _) (.cells #[.int .i64 8, .pointer none, .pointer none, .pointer (some ⟨w.heap.size, x, none⟩)] 82))).drew
          have hsz : W ≤ wr.heap.size := by have := hbr.size; have := hwr.lt; omega
          obtain ⟨S, HS⟩ : ∃ S : World → Prop, Hid (∀ w', S w' = (w'.cell? ⟨wr.heap.size, 0, none⟩ = some (.int .i64 8) ∧ w'.cell? ⟨wr.heap.size, 3, none⟩ = some (.pointer (some ⟨w.heap.size, x, none⟩)) ∧ w'.cell? ⟨w.heap.size, x, none⟩ = some (.int .u64 (m : Int)))) := ⟨_, fun _ => rfl⟩
          refine wp_region_seq S 7 [(0, false), (1, false), (2, false), (3, false), (4, false), (5, false), (6, false), (7, true)] (by kernel_rfl) rfl (by kernel_rfl) (by kernel_rfl) (by kernel_rfl) (fun _ _ d _ _ h => by cases d <;> exact h) ((HS.out _).mpr ⟨cell_made wr _ _ 0, cell_made wr _ _ 3, cell_new cx _⟩) ?_
          repeat (refine wpSeq_read rfl rfl ⟨?_, fun w1 hS => ?_, ?_⟩; rotate_left; (focus (rw [HS.out] at hS; go_split_ands; go_simp; (try go_bits); try rfl)); simp only [Act.put, List.setIfInBounds_toArray, List.set_cons_zero, List.set_cons_succ])
          refine wpSeq_write rfl rfl ?_
          go_simp
          refine (writer_number W W m 8 _ _ hwa (by omega) (HLEN.out k)).mono ?_
          rintro e w5 ⟨rfl, hw5, hb5, -⟩
          rw [e8, ← Hst.out.2] at hw5
          have HW := Lib.hid hw5
          have HB := Lib.hid ((hbr.alloc hsz (.cells #[.int .i64 8, .pointer none, .pointer none, .pointer (some ⟨w.heap.size, x, none⟩)] 82)).drew.trans hb5)
          clear hw5 hb5 hwr hbr tr hwa HS m0 m1 m2 m3 cx
          go_simp
          refine wpSeq_nil ?_
          go_wp2
          go_roundw
          case rel => exact ⟨k + 1, by omega, by go_num, Hst.out.1, HW.out, HB.out⟩
          case measure => simp [intOf]; omega
        · have m0 := hcell (k * 4 + 0) _ ((q 0 (by omega)).trans rfl)
          have m1 := hcell (k * 4 + 1) _ ((q 1 (by omega)).trans rfl)
          have m2 := hcell (k * 4 + 2) _ ((q 2 (by omega)).trans rfl)
          have m3 := hcell (k * 4 + 3) _ ((q 3 (by omega)).trans rfl)
          clear q hcell
          simp only [← Nat.add_assoc, Nat.add_zero] at m0 m1 m2 m3
          have cx := tr.cell 47
          rw [show D[47]? = some (.slice Al R.leaf.length cl) from hd47] at cx
          have hgl := tr.lt
          have hsz : W ≤ wr.heap.size := by have := hbr.size; have := hwr.lt; omega
          by_cases hb : 256 < R.leaf.length
          · have Hst : Hid (bodyRes R = (3, [])) := by
              unfold Hid
              rw [H.out, bodyGo_bad R l k _ _ Hall.out Hx.out]
              · simp [fldWhy, hb]
              · simp [fldWhy, hb]
            have HB := Lib.hid ((B3.trans (hbr.mono (by omega))).alloc (by omega) (.cells #[.int .i64 0, .pointer none, .pointer none, .pointer none] 82))
            go_wp2
            go_ret2
            exact ⟨_, by rw [Hst.out]; rfl, by rw [Hst.out]; exact World.ownsRow_nil .., HB.out⟩
          · have Hst : Hid ((∀ f ∈ l.take (k + 1), fldWhy R f = 0) ∧ be n 1 ++ (l.take (k + 1)).flatMap (fldB R) = be n 1 ++ (l.take k).flatMap (fldB R) ++ txt R.leaf) := by
              refine body_step R l k _ Hx.out Hall.out ?_ ?_ _
              · simp [fldWhy, hb]
              · simp [fldB]
            go_wp2_with fail
            have hwa := hwr.kept_call ((Below.refl _ _).alloc (Nat.le_refl _) (.cells #[.int .i64 0, .pointer none, .pointer none, .pointer none] 82))
            have hla := (hlr.alloc (by omega) (.cells #[.int .i64 0, .pointer none, .pointer none, .pointer none] 82)).more (show w.heap.size ≤ W by omega)
            refine (writer_bytes W W _ R.leaf Al R.leaf.length cl _ hwa (HLEN.out k) hla hlc hc).mono ?_
            rintro e w5 ⟨rfl, hw5, hb5, -⟩
            rw [← Hst.out.2] at hw5
            have HW := Lib.hid hw5
            have HB := Lib.hid ((hbr.alloc hsz (.cells #[.int .i64 0, .pointer none, .pointer none, .pointer none] 82)).trans hb5)
            clear hw5 hb5 hwr hbr tr hwa m0 m1 m2 m3 cx hla
            go_wp2
            go_roundw
            case rel => exact ⟨k + 1, by omega, by go_num, Hst.out.1, HW.out, HB.out⟩
            case measure => simp [intOf]; omega
      · obtain rfl : k = l.length := by omega
        have Hst : Hid (bodyRes R = (0, be n 1 ++ (l.take l.length).flatMap (fldB R))) := by
          unfold Hid
          rw [H.out, bodyGo_end R l l.length _ Hall.out, List.drop_length]
          rfl
        go_wp2_with fail
        refine (writer_done W W _ _ hwr (by have := HLEN.out l.length; omega)).mono ?_
        rintro e w6 ⟨v, rfl, hown6, hb6⟩
        have hsz : W ≤ wr.heap.size := by have := hbr.size; have := hwr.lt; omega
        have HO := Lib.hid (own_mono hown6 (show w.heap.size ≤ wr.heap.size by omega))
        have HB := Lib.hid ((B3.trans (hbr.mono (by omega))).trans (hb6.mono (by omega)))
        clear hown6 hb6 hwr hbr tr
        go_wp2
        go_ret2
        exact ⟨v, by rw [Hst.out]; rfl, by rw [Hst.out]; exact HO.out, HB.out⟩

end Go.Proofs.YtbkdccamimakoaaDoor
