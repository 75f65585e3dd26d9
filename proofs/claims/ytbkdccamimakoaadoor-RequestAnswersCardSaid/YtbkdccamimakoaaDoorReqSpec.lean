/-
  Requests read: plain.
-/
import Derived.Test.YtbkdccamimakoaaDoorReaderB
import Derived.Test.YtbkdccamimakoaaDoorTokLaw
import Derived.Test.YtbkdccamimakoaaDoorBody
namespace Go.Proofs.YtbkdccamimakoaaDoor
open Go.RowKit
set_option linter.unusedVariables false
set_option maxRecDepth 100000

/-- A request with an operation and a token alone. -/
def req0 (T : Tok) (op : Int) : Req := ⟨op, T.1, T.2.1, T.2.2, 0, 0, 0, 0, 0, 0, 0, 0, 0, 0, 0, 0, []⟩

/-- A number laid at a place of a request. -/
def Req.put (R : Req) (o n : Nat) : Req :=
  match o with
  | 35 => { R with tree := n } | 36 => { R with tenant := n } | 37 => { R with role := n } | 38 => { R with state := n } | 39 => { R with weight := n } | 40 => { R with id := n }
  | 41 => { R with lo := n } | 42 => { R with hi := n } | 43 => { R with rate := n } | 44 => { R with burst := n } | 45 => { R with store := n } | 46 => { R with expires := n } | _ => R

def reqGo (bs : List Nat) : List Fld → RSt → Req → RSt × Req
  | [], s, R => (s, R)
  | f :: l, s, R =>
    if f.2.1 = 0 then reqGo bs l (rBytes bs s 256).1 { R with leaf := (rBytes bs s 256).2 }
    else reqGo bs l (rNum bs s f.1).1 (R.put f.2.2 (rNum bs s f.1).2)

/-- Where a reader stands behind a request's token. -/
def reqTok (bs : List Nat) : RSt :=
  if (tokDec (rBytes bs (0, none) 77).2).1 = none then (rBytes bs (0, none) 77).1 else rRefuse (rBytes bs (0, none) 77).1 (rBytes bs (0, none) 77).1.1 12

def reqT (bs : List Nat) : Tok := (tokDec (rBytes bs (0, none) 77).2).2

def reqDecS (bs : List Nat) : RSt × Req :=
  match fieldsOf ((rNum bs (reqTok bs) 1).2 : Int) with
  | none => (rRefuse (rNum bs (reqTok bs) 1).1 (rNum bs (reqTok bs) 1).1.1 12, req0 (reqT bs) ((rNum bs (reqTok bs) 1).2 : Int))
  | some l => reqGo bs l (rNum bs (reqTok bs) 1).1 (req0 (reqT bs) ((rNum bs (reqTok bs) 1).2 : Int))

def zeroReq : Req := req0 zeroTok 0

/-- What bytes say: a request, or where and why not. -/
def reqDec (bs : List Nat) : Option (Nat × Nat) × Req := match rEnd bs (reqDecS bs).1 with
  | none => (none, (reqDecS bs).2)
  | some x => (some x, zeroReq)

theorem rBytes_len (bs : List Nat) (s : RSt) (m : Nat) (h : ∀ x ∈ bs, x < 256) : (rBytes bs s m).2.length ≤ 65535 := by
  have h1 := rTake_len bs (if (rNum bs s 2).1.2 = none ∧ m < (rNum bs s 2).2 then (s.1, some (s.1, 3)) else (rNum bs s 2).1) (rNum bs s 2).2
  have h2 := rNum_lt bs s 2 h
  have e : (256 : Nat) ^ 2 = 65536 := by decide
  rw [e] at h2
  unfold rBytes
  omega

theorem rBytes_ref (bs : List Nat) (s : RSt) (m : Nat) (x : Nat × Nat) (h : s.2 = some x) : rBytes bs s m = (s, []) := by
  unfold rBytes
  rw [rNum_ref bs s 2 x h]
  simp only
  rw [if_neg (by rw [h]; simp), rTake_ref bs s 0 x h]

theorem reqGo_ref (bs : List Nat) : ∀ (l : List Fld) (s : RSt) (R : Req) (x : Nat × Nat), s.2 = some x → (reqGo bs l s R).1 = s
  | [], s, R, x, h => rfl
  | f :: l, s, R, x, h => by
    unfold reqGo
    split
    · rw [rBytes_ref bs s 256 x h]
      exact reqGo_ref bs l s _ x h
    · rw [rNum_ref bs s f.1 x h]
      exact reqGo_ref bs l s _ x h

theorem Why.bytes {bs : List Nat} {s : RSt} {m : Nat} (h : Why s) : Why (rBytes bs s m).1 := by
  unfold rBytes
  refine Why.take ?_
  split
  · intro x hx
    injection hx with hx
    subst hx
    exact (by decide : (3 : Nat) ≠ 0)
  · exact Why.take h

theorem Why.go {bs : List Nat} : ∀ (l : List Fld) (s : RSt) (R : Req), Why s → Why (reqGo bs l s R).1
  | [], s, R, h => h
  | f :: l, s, R, h => by
    unfold reqGo
    split
    · exact Why.go l _ _ h.bytes
    · exact Why.go l _ _ h.take

theorem Why.none : Why (0, none) := fun x hx => by cases hx

theorem reqDec_why (bs : List Nat) : ∀ x, (reqDec bs).1 = some x → x.2 ≠ 0 := by
  have ht : Why (reqTok bs) := by
    unfold reqTok
    split
    · exact Why.none.bytes
    · exact Why.none.bytes.refuse (by decide)
  have h : Why (reqDecS bs).1 := by
    unfold reqDecS
    split
    · exact (Why.take ht).refuse (by decide)
    · exact Why.go _ _ _ (Why.take ht)
  intro x hx
  unfold reqDec at hx
  split at hx
  · cases hx
  · rename_i y hy
    injection hx with hx
    subst hx
    exact h.end _ hy

theorem reqDecS_go (bs : List Nat) (s7 : RSt) (k : Nat) (h : rNum bs (reqTok bs) 1 = (s7, k)) :
    reqDecS bs = reqGo bs ((fieldsOf (k : Int)).getD []) (if (fieldsOf (k : Int)).isSome then s7 else rRefuse s7 s7.1 12) (req0 (reqT bs) (k : Int)) := by
  unfold reqDecS
  rw [h]
  cases hf : fieldsOf (k : Int) with
  | none => simp only [hf]; rfl
  | some l => simp only [hf]; rfl

theorem req_op (T : Tok) (cav lv : Value) (k : Nat) : (reqv (req0 T 0) cav lv).toArray.setIfInBounds 0 (.int .i64 (k : Int)) = (reqv (req0 T (k : Int)) cav lv).toArray := by
  simp [reqv, req0, Req.rest]

/-- What a reader of a request has so far is in order. -/
structure Req.Fine (R : Req) : Prop where
  tag : R.tag.length = 32
  tagb : ∀ b ∈ R.tag, b < 256
  tid : R.tid < 4294967296
  cavn : ∀ x ∈ R.cavs, x.2 < 4294967296
  cavl : R.cavs.length ≤ 4
  leafb : ∀ b ∈ R.leaf, b < 256
  leafl : R.leaf.length ≤ 65535

/-- A field's number as a cell. -/
def fldN (f : Fld) (n : Nat) : Value := if f.2.1 = 1 then .int .i64 (n : Int) else if f.2.1 = 2 then .int .u32 (n : Int) else .int .u64 (n : Int)

theorem reqv_split (R : Req) (cav leafv : Value) (ht : R.tag.length = 32) (k : Nat) (v : Value) : (reqv R cav leafv).toArray.setIfInBounds (35 + k) v = ((Value.int .i64 R.op :: tokv R.tid cav R.tag) ++ (R.rest leafv).set k v).toArray := by
  have h : (Value.int .i64 R.op :: tokv R.tid cav R.tag).length = 35 := by rw [List.length_cons, tokv_len _ _ _ ht]
  unfold reqv
  rw [List.setIfInBounds_toArray, List.set_append_right _ _ (by omega), h]
  rw [show 35 + k - 35 = k by omega]

/-- A field laid. -/
theorem fld_put (R : Req) (cav leafv : Value) (ht : R.tag.length = 32) (f : Fld) (hf : IsFld f) (h0 : f.2.1 ≠ 0) (n : Nat) :
    (reqv R cav leafv).toArray.setIfInBounds f.2.2 (fldN f n) = (reqv (R.put f.2.2 n) cav leafv).toArray := by
  have q := reqv_split R cav leafv ht
  unfold IsFld at hf
  rcases hf with rfl | rfl | rfl | rfl | rfl | rfl | rfl | rfl | rfl | rfl | rfl | rfl | rfl
  · exact (q 0 _).trans rfl
  · exact (q 1 _).trans rfl
  · exact (q 2 _).trans rfl
  · exact (q 3 _).trans rfl
  · exact (q 4 _).trans rfl
  · exact (q 5 _).trans rfl
  · exact (q 6 _).trans rfl
  · exact (q 7 _).trans rfl
  · exact (q 8 _).trans rfl
  · exact (q 9 _).trans rfl
  · exact (q 10 _).trans rfl
  · exact (q 11 _).trans rfl
  · exact absurd rfl h0

theorem isFld_kinds {f : Fld} (hf : IsFld f) : (f.2.1 = 1 ∧ f.1 = 1) ∨ (f.2.1 = 2 ∧ f.1 = 4) ∨ (f.2.1 = 3 ∧ f.1 = 8) ∨ f = (0, 0, 0) := by
  unfold IsFld at hf
  rcases hf with rfl | rfl | rfl | rfl | rfl | rfl | rfl | rfl | rfl | rfl | rfl | rfl | rfl <;> simp

theorem fld_at (R : Req) (cav leafv : Value) (ht : R.tag.length = 32) (f : Fld) (hf : IsFld f) (h0 : f.2.1 ≠ 0) : ∃ v, (reqv R cav leafv)[f.2.2]? = some v := by
  have q := reqv_rest R cav leafv ht
  unfold IsFld at hf
  rcases hf with rfl | rfl | rfl | rfl | rfl | rfl | rfl | rfl | rfl | rfl | rfl | rfl | rfl
  · exact ⟨_, (q 0).trans rfl⟩
  · exact ⟨_, (q 1).trans rfl⟩
  · exact ⟨_, (q 2).trans rfl⟩
  · exact ⟨_, (q 3).trans rfl⟩
  · exact ⟨_, (q 4).trans rfl⟩
  · exact ⟨_, (q 5).trans rfl⟩
  · exact ⟨_, (q 6).trans rfl⟩
  · exact ⟨_, (q 7).trans rfl⟩
  · exact ⟨_, (q 8).trans rfl⟩
  · exact ⟨_, (q 9).trans rfl⟩
  · exact ⟨_, (q 10).trans rfl⟩
  · exact ⟨_, (q 11).trans rfl⟩
  · exact absurd rfl h0

theorem reqGo_num (bs : List Nat) (l : List Fld) (j : Nat) (f : Fld) (s : RSt) (R : Req) (X : RSt × Req) (h : reqGo bs (l.drop j) s R = X) (hj : l[j]? = some f) (h0 : f.2.1 ≠ 0) :
    reqGo bs (l.drop (j + 1)) (rNum bs s f.1).1 (R.put f.2.2 (rNum bs s f.1).2) = X := by
  obtain ⟨hlt, e⟩ := List.getElem?_eq_some_iff.1 hj
  rw [List.drop_eq_getElem_cons hlt, e] at h
  rw [← h]
  show _ = reqGo bs (f :: l.drop (j + 1)) s R
  rw [reqGo, if_neg h0]

theorem reqGo_leaf (bs : List Nat) (l : List Fld) (j : Nat) (f : Fld) (s : RSt) (R : Req) (X : RSt × Req) (h : reqGo bs (l.drop j) s R = X) (hj : l[j]? = some f) (h0 : f.2.1 = 0) :
    reqGo bs (l.drop (j + 1)) (rBytes bs s 256).1 { R with leaf := (rBytes bs s 256).2 } = X := by
  obtain ⟨hlt, e⟩ := List.getElem?_eq_some_iff.1 hj
  rw [List.drop_eq_getElem_cons hlt, e] at h
  rw [← h]
  show _ = reqGo bs (f :: l.drop (j + 1)) s R
  rw [reqGo, if_pos h0]

theorem leaf_put (R : Req) (cav leafv v : Value) (l : List Nat) (ht : R.tag.length = 32) : (reqv R cav leafv).toArray.setIfInBounds 47 v = (reqv { R with leaf := l } cav v).toArray :=
  (reqv_split R cav leafv ht 12 v).trans rfl

theorem put_tok (R : Req) (o n : Nat) : (R.put o n).tid = R.tid ∧ (R.put o n).cavs = R.cavs ∧ (R.put o n).tag = R.tag ∧ (R.put o n).leaf = R.leaf ∧ (R.put o n).op = R.op := by
  unfold Req.put
  split <;> exact ⟨rfl, rfl, rfl, rfl, rfl⟩

theorem Req.Fine.put {R : Req} (h : R.Fine) (o n : Nat) : (R.put o n).Fine := by
  obtain ⟨h1, h2, h3, h4, -⟩ := put_tok R o n
  exact ⟨by rw [h3]; exact h.tag, by rw [h3]; exact h.tagb, by rw [h1]; exact h.tid, by rw [h2]; exact h.cavn, by rw [h2]; exact h.cavl, by rw [h4]; exact h.leafb, by rw [h4]; exact h.leafl⟩

end Go.Proofs.YtbkdccamimakoaaDoor
