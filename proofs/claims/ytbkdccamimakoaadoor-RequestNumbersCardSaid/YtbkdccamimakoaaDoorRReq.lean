/-
  deponentref18.Decode: the same answer as request.Decode.
-/
import Derived.Test.YtbkdccamimakoaaDoorReqDec
namespace Go.Proofs.YtbkdccamimakoaaDoor
open Go.RowKit
set_option linter.unusedVariables false
set_option maxRecDepth 100000

theorem reqDec_refS (bs : List Nat) (s : RSt) (R : Req) (x : Nat × Nat) (h : reqDecS bs = (s, R)) (hs : s.2 = some x) : reqDec bs = (some x, zeroReq) := by
  unfold reqDec
  rw [h]
  simp only [rEnd, hs]

theorem reqDec_tok (bs : List Nat) (x : Nat × Nat) (h : (reqTok bs).2 = some x) : reqDec bs = (some x, zeroReq) := by
  have h1 := rNum_ref bs (reqTok bs) 1 x h
  have h2 := reqDecS_go bs _ _ h1
  have e : fieldsOf ((0 : Nat) : Int) = none := by decide
  rw [e] at h2
  simp only [Option.getD_none, reqGo, Option.isSome_none, Bool.false_eq_true, if_false] at h2
  exact reqDec_refS bs _ _ x h2 (by rw [rRefuse_ref _ _ _ x h]; exact h)

theorem reqDec_op (bs : List Nat) (s7 : RSt) (k : Nat) (x : Nat × Nat) (h : rNum bs (reqTok bs) 1 = (s7, k)) (hs : s7.2 = some x) : reqDec bs = (some x, zeroReq) := by
  have h2 := reqDecS_go bs _ _ h
  have e : (if (fieldsOf (k : Int)).isSome then s7 else rRefuse s7 s7.1 12) = s7 := by
    split
    · rfl
    · exact rRefuse_ref _ _ _ x hs
  rw [e] at h2
  have h3 := reqGo_ref bs ((fieldsOf (k : Int)).getD []) s7 (req0 (reqT bs) (k : Int)) x hs
  exact reqDec_refS bs (reqDecS bs).1 (reqDecS bs).2 x rfl (by rw [h2, h3]; exact hs)

theorem reqDec_bad (bs : List Nat) (s7 : RSt) (k : Nat) (h : rNum bs (reqTok bs) 1 = (s7, k)) (hs : s7.2 = none) (hf : fieldsOf (k : Int) = none) : reqDec bs = (some (s7.1, 12), zeroReq) := by
  have h2 := reqDecS_go bs _ _ h
  rw [hf] at h2
  simp only [Option.getD_none, reqGo, Option.isSome_none, Bool.false_eq_true, if_false] at h2
  refine reqDec_refS bs _ _ _ h2 ?_
  unfold rRefuse
  rw [hs]

theorem reqDec_good (bs : List Nat) (s7 : RSt) (k : Nat) (l : List Fld) (T : Tok) (s : RSt) (R : Req) (h : rNum bs (reqTok bs) 1 = (s7, k)) (hf : fieldsOf (k : Int) = some l) (hT : reqT bs = T) (hg : reqGo bs l s7 (req0 T (k : Int)) = (s, R)) :
    reqDec bs = match rEnd bs s with
      | none => (none, R)
      | some x => (some x, zeroReq) := by
  have h2 := reqDecS_go bs _ _ h
  rw [hf, hT] at h2
  simp only [Option.getD_some, Option.isSome_some, if_true] at h2
  rw [hg] at h2
  unfold reqDec
  rw [h2]
  dsimp only
  cases rEnd bs s <;> rfl

/-- Where the document's reader of a request stands. -/
structure RQ (W w : World) (g G : Nat) (bs : List Nat) (s : RSt) (R : Req) (cav lv : Value) : Prop where
  rd : RRd w g bs s
  q : Blk w G 32 (reqv R cav lv).toArray
  z : Blk w W.heap.size 32 #[.int .i64 0, .int .u32 0, .slice none 0 0, .int .u8 0, .int .u8 0, .int .u8 0, .int .u8 0, .int .u8 0, .int .u8 0, .int .u8 0, .int .u8 0, .int .u8 0, .int .u8 0, .int .u8 0, .int .u8 0, .int .u8 0, .int .u8 0, .int .u8 0, .int .u8 0, .int .u8 0, .int .u8 0, .int .u8 0, .int .u8 0, .int .u8 0, .int .u8 0, .int .u8 0, .int .u8 0, .int .u8 0, .int .u8 0, .int .u8 0, .int .u8 0, .int .u8 0, .int .u8 0, .int .u8 0, .int .u8 0, .int .i64 0, .int .i64 0, .int .i64 0, .int .i64 0, .int .i64 0, .int .u32 0, .int .u64 0, .int .u64 0, .int .u32 0, .int .u32 0, .int .u32 0, .int .u64 0, .slice none 0 0]
  c : OwnC w (g + 1) cav R.cavs
  l : OwnB w (g + 1) lv R.leaf
  b : Below W.heap.size W w
  fine : R.Fine
  gG : g < G
  wg : W.heap.size < g

theorem own_ref {w w' : World} {base g : Nat} {e : TypeId} {sz m : Nat} {v : Value} {xs : List Value} {bs : List Nat} {s : RSt} (h : w.ownsRow base e sz v m xs) (hr : RRd w g bs s) (hg : w.grownBy w' (some g)) (he : e ≠ 86) : w'.ownsRow base e sz v m xs :=
  World.ownsRow.kept h hg (.inr (fun e' => by
    obtain ⟨A', n', c', hgb, -⟩ := hr
    exact own_blk_ne h hgb he e'))

theorem RQ.num {W w w' : World} {g G : Nat} {bs : List Nat} {s s' : RSt} {R : Req} {cav lv : Value} (h : RQ W w g G bs s R cav lv) (hr : RRd w' g bs s') (hg : w.grownBy w' (some g)) : RQ W w' g G bs s' R cav lv :=
  ⟨hr, h.q.grown hg (by have := h.gG; simp; omega), h.z.grown hg (by have := h.wg; simp; omega), own_ref h.c h.rd hg (by decide), own_ref h.l h.rd hg (by decide), adv h.b hg (Nat.le_of_lt h.wg) h.rd.lt, h.fine, h.gG, h.wg⟩

theorem RQ.put {W w : World} {g G : Nat} {bs : List Nat} {s : RSt} {R : Req} {cav lv : Value} (h : RQ W w g G bs s R cav lv) (f : Fld) (hf : IsFld f) (h0 : f.2.1 ≠ 0) (n : Nat) : RQ W (w.setCell ⟨G, f.2.2, none⟩ (fldN f n)) g G bs s (R.put f.2.2 n) cav lv := by
  have gs := only_setCell (p := ⟨G, f.2.2, none⟩) (World.grownBy.refl w (some G)) (.inl rfl) (fldN f n)
  obtain ⟨-, p2, -, p4, -⟩ := put_tok R f.2.2 n
  have q := h.q.set_ f.2.2 (fldN f n)
  rw [fld_put R cav lv h.fine.tag f hf h0 n] at q
  have hgG := h.gG
  have hwg := h.wg
  refine ⟨h.rd.kept gs h.gG, q, h.z.grown gs (by simp; omega), ?_, ?_, adv h.b gs (by omega) h.q.lt, h.fine.put _ _, h.gG, h.wg⟩
  · rw [p2]
    exact World.ownsRow.kept h.c gs (.inr (own_blk_ne h.c h.q (by decide)))
  · rw [p4]
    exact World.ownsRow.kept h.l gs (.inr (own_blk_ne h.l h.q (by decide)))

theorem RQ.leaf {W w w' : World} {g G : Nat} {bs : List Nat} {s s' : RSt} {R : Req} {cav lv v : Value} {lf : List Nat} (h : RQ W w g G bs s R cav lv) (hr : RRd w' g bs s') (hg : w.grownBy w' (some g)) (ho : OwnB w' w.heap.size v lf) (h1 : ∀ b ∈ lf, b < 256) (h2 : lf.length ≤ 65535) :
    RQ W (w'.setCell ⟨G, 47, none⟩ v) g G bs s' { R with leaf := lf } cav v := by
  have k := h.num hr hg
  have gs := only_setCell (p := ⟨G, 47, none⟩) (World.grownBy.refl w' (some G)) (.inl rfl) v
  have q := k.q.set_ 47 v
  rw [leaf_put R cav lv v lf h.fine.tag] at q
  have hgG := h.gG
  have hwg := h.wg
  have hrl := h.rd.lt
  exact ⟨k.rd.kept gs h.gG, q, k.z.grown gs (by simp; omega), World.ownsRow.kept k.c gs (.inr (own_blk_ne k.c k.q (by decide))), OwnB.mono (World.ownsRow.kept ho gs (.inr (own_blk_ne ho k.q (by decide)))) (by omega), adv k.b gs (by omega) k.q.lt,
    ⟨h.fine.tag, h.fine.tagb, h.fine.tid, h.fine.cavn, h.fine.cavl, h1, h2⟩, h.gG, h.wg⟩

theorem RQ.below {W w w' : World} {g G : Nat} {bs : List Nat} {s : RSt} {R : Req} {cav lv : Value} (h : RQ W w g G bs s R cav lv) (hb : Below w.heap.size w w') : RQ W w' g G bs s R cav lv :=
  ⟨h.rd.below hb, h.q.below hb h.q.lt, h.z.below hb h.z.lt, h.c.kept hb, h.l.kept hb, h.b.trans (hb.mono h.b.size), h.fine, h.gG, h.wg⟩


theorem rq_trees (op : Int) (w : World) :
    Calls Tryd.prog 35 #[.int .i64 op] w fun e w' => e = .returned (.bool (treesB op)) ∧ w = w' := by
  go_enter Tryd.func35, Tryd.ntmps35
  go_wp2
  all_goals
    go_ret
    refine ⟨?_, rfl⟩
    exact ret_bool' (by rw [Bool.eq_iff_iff]; simp_all [treesB]; try omega)

theorem req_op2 (R : Req) (cav lv : Value) (k : Int) : (reqv R cav lv).toArray.setIfInBounds 0 (.int .i64 k) = (reqv { R with op := k } cav lv).toArray := by
  simp [reqv, Req.rest]

theorem RQ.op {W w : World} {g G : Nat} {bs : List Nat} {s : RSt} {R : Req} {cav lv : Value} (h : RQ W w g G bs s R cav lv) (k : Int) : RQ W (w.setCell ⟨G, 0, none⟩ (.int .i64 k)) g G bs s { R with op := k } cav lv := by
  have gs := only_setCell (p := ⟨G, 0, none⟩) (World.grownBy.refl w (some G)) (.inl rfl) (.int .i64 k)
  have q := h.q.set_ 0 (.int .i64 k)
  rw [req_op2 R cav lv k] at q
  have hgG := h.gG
  have hwg := h.wg
  exact ⟨h.rd.kept gs h.gG, q, h.z.grown gs (by simp; omega), World.ownsRow.kept h.c gs (.inr (own_blk_ne h.c h.q (by decide))), World.ownsRow.kept h.l gs (.inr (own_blk_ne h.l h.q (by decide))), adv h.b gs (by omega) h.q.lt,
    ⟨h.fine.tag, h.fine.tagb, h.fine.tid, h.fine.cavn, h.fine.cavl, h.fine.leafb, h.fine.leafl⟩, h.gG, h.wg⟩

theorem RQ.tok {W w : World} {g G : Nat} {bs : List Nat} {s : RSt} {T : Tok} {cav : Value} (h : RQ W w g G bs s zeroReq (.slice none 0 0) (.slice none 0 0)) (ht : T.Ok) (h4 : T.2.1.length ≤ 4) (hc : OwnC w (g + 1) cav T.2.1) :
    RQ W (w.setCells G 1 (tokv T.1 cav T.2.2)) g G bs s (req0 T 0) cav (.slice none 0 0) := by
  have gs := grown_setCells G (tokv T.1 cav T.2.2) 1 w
  have q0 : Blk w G 32 ((#[.int .i64 0, .int .u32 0, .slice none 0 0, .int .u8 0, .int .u8 0, .int .u8 0, .int .u8 0, .int .u8 0, .int .u8 0, .int .u8 0, .int .u8 0, .int .u8 0, .int .u8 0, .int .u8 0, .int .u8 0, .int .u8 0, .int .u8 0, .int .u8 0, .int .u8 0, .int .u8 0, .int .u8 0, .int .u8 0, .int .u8 0, .int .u8 0, .int .u8 0, .int .u8 0, .int .u8 0, .int .u8 0, .int .u8 0, .int .u8 0, .int .u8 0, .int .u8 0, .int .u8 0, .int .u8 0, .int .u8 0, .int .i64 0, .int .i64 0, .int .i64 0, .int .i64 0, .int .i64 0, .int .u32 0, .int .u64 0, .int .u64 0, .int .u32 0, .int .u32 0, .int .u32 0, .int .u64 0, .slice none 0 0] : Array Value).toList).toArray := h.q
  have q := Blk.setCells (tokv T.1 cav T.2.2) 1 w _ q0 (by rw [tokv_len _ _ _ ht.2.2.1]; decide)
  rw [req_tok 0 T cav (.slice none 0 0) ht.2.2.1] at q
  have hgG := h.gG
  have hwg := h.wg
  exact ⟨h.rd.kept gs h.gG, q, h.z.grown gs (by simp; omega), World.ownsRow.kept hc gs (.inr (own_blk_ne hc h.q (by decide))), OwnB.nil _ _, adv h.b gs (by omega) h.q.lt, ⟨ht.2.2.1, ht.2.2.2, ht.1, ht.2.1, h4, by simp [req0], by simp [req0]⟩, h.gG, h.wg⟩

theorem fields_good (k : Nat) (h : 1 ≤ k ∧ k ≤ 12) : k = 1 ∨ k = 2 ∨ k = 3 ∨ k = 4 ∨ k = 5 ∨ k = 6 ∨ k = 7 ∨ k = 8 ∨ k = 9 ∨ k = 10 ∨ k = 11 ∨ k = 12 := by omega

theorem fields_bad (k : Nat) (h : ¬ (1 ≤ k ∧ k ≤ 12)) : fieldsOf (k : Int) = none := by
  cases hf : fieldsOf (k : Int) with
  | none => rfl
  | some l =>
    obtain ⟨h1, h2, -⟩ := fields_len _ _ hf
    omega

theorem reqv_one (R : Req) (cav lv : Value) (h1 : cav.oneCell' = true) (h2 : lv.oneCell' = true) : ∀ u ∈ reqv R cav lv, u.oneCell' = true := by
  intro u hu
  unfold reqv Req.rest at hu
  simp only [List.cons_append, List.mem_cons, List.mem_append, List.not_mem_nil, or_false] at hu
  rcases hu with rfl | hu | hu
  · rfl
  · exact tokv_one _ _ h1 _ u hu
  · rcases hu with rfl | rfl | rfl | rfl | rfl | rfl | rfl | rfl | rfl | rfl | rfl | rfl | rfl <;> first | rfl | exact h2

theorem RQ.cells {W w : World} {g G : Nat} {bs : List Nat} {s : RSt} {R : Req} {cav lv : Value} (h : RQ W w g G bs s R cav lv) (h1 : cav.oneCell' = true) (h2 : lv.oneCell' = true) :
    ∃ M, reqv R cav lv = M ∧ M.length = 48 ∧ (∀ u ∈ M, u.oneCell' = true) ∧ Blk w G 32 M.toArray :=
  ⟨_, rfl, req_size R cav lv h.fine.tag, reqv_one R cav lv h1 h2, h.q⟩

theorem RQ.c0 {W w : World} {g G : Nat} {bs : List Nat} {s : RSt} {R : Req} {cav lv : Value} (h : RQ W w g G bs s R cav lv) : w.cell? ⟨G, 0, none⟩ = some (.int .i64 R.op) := (h.q.cell 0).trans rfl

-- END BY HAND
set_option maxHeartbeats 8000000 in
theorem ref18_decode (bs : List Nat) (A : Option Addr) (n c : Nat) (w : World) (hr : Reads w w.heap.size 1 A n (byv bs)) (hnc : n ≤ c) (hn : n ≤ 140737488355328) (hb : ∀ x ∈ bs, x < 256) :
    Calls Tryd.prog 9 #[.slice A n c] w fun e w' => ∃ cav lv, e = .returned (.tuple #[.agg (reqv (reqDec bs).2 cav lv).toArray, .int .i64 (atOf (reqDec bs).1 : Nat), .int .i64 (whyOf (reqDec bs).1 : Nat)]) ∧ OwnC w' w.heap.size cav (reqDec bs).2.cavs ∧ OwnB w' w.heap.size lv (reqDec bs).2.leaf ∧ Below w.heap.size w w' := by
  have HB := Lib.hid hb
  obtain ⟨g, hg⟩ : ∃ g, w.heap.size + 1 = g := ⟨_, rfl⟩
  obtain ⟨G, hG⟩ : ∃ G, g + 1 = G := ⟨_, rfl⟩
  obtain ⟨W0, hW0⟩ : ∃ x, x = ((w.alloc (.cells #[.int .i64 0, .int .u32 0, .slice none 0 0, .int .u8 0, .int .u8 0, .int .u8 0, .int .u8 0, .int .u8 0, .int .u8 0, .int .u8 0, .int .u8 0, .int .u8 0, .int .u8 0, .int .u8 0, .int .u8 0, .int .u8 0, .int .u8 0, .int .u8 0, .int .u8 0, .int .u8 0, .int .u8 0, .int .u8 0, .int .u8 0, .int .u8 0, .int .u8 0, .int .u8 0, .int .u8 0, .int .u8 0, .int .u8 0, .int .u8 0, .int .u8 0, .int .u8 0, .int .u8 0, .int .u8 0, .int .u8 0, .int .i64 0, .int .i64 0, .int .i64 0, .int .i64 0, .int .i64 0, .int .u32 0, .int .u64 0, .int .u64 0, .int .u32 0, .int .u32 0, .int .u32 0, .int .u64 0, .slice none 0 0] 32)).alloc (.cells #[.slice A n c, .int .i64 0, .int .i64 0, .int .i64 0, .bool false] 86)).alloc (.cells #[.int .i64 0, .int .u32 0, .slice none 0 0, .int .u8 0, .int .u8 0, .int .u8 0, .int .u8 0, .int .u8 0, .int .u8 0, .int .u8 0, .int .u8 0, .int .u8 0, .int .u8 0, .int .u8 0, .int .u8 0, .int .u8 0, .int .u8 0, .int .u8 0, .int .u8 0, .int .u8 0, .int .u8 0, .int .u8 0, .int .u8 0, .int .u8 0, .int .u8 0, .int .u8 0, .int .u8 0, .int .u8 0, .int .u8 0, .int .u8 0, .int .u8 0, .int .u8 0, .int .u8 0, .int .u8 0, .int .u8 0, .int .i64 0, .int .i64 0, .int .i64 0, .int .i64 0, .int .i64 0, .int .u32 0, .int .u64 0, .int .u64 0, .int .u32 0, .int .u32 0, .int .u32 0, .int .u64 0, .slice none 0 0] 32) := ⟨_, rfl⟩
  have h0 : RRd W0 g bs (0, none) := by
    have := RRd.new (hr.laid (.cells #[.int .i64 0, .int .u32 0, .slice none 0 0, .int .u8 0, .int .u8 0, .int .u8 0, .int .u8 0, .int .u8 0, .int .u8 0, .int .u8 0, .int .u8 0, .int .u8 0, .int .u8 0, .int .u8 0, .int .u8 0, .int .u8 0, .int .u8 0, .int .u8 0, .int .u8 0, .int .u8 0, .int .u8 0, .int .u8 0, .int .u8 0, .int .u8 0, .int .u8 0, .int .u8 0, .int .u8 0, .int .u8 0, .int .u8 0, .int .u8 0, .int .u8 0, .int .u8 0, .int .u8 0, .int .u8 0, .int .u8 0, .int .i64 0, .int .i64 0, .int .i64 0, .int .i64 0, .int .i64 0, .int .u32 0, .int .u64 0, .int .u64 0, .int .u32 0, .int .u32 0, .int .u32 0, .int .u64 0, .slice none 0 0] 32)) hnc hn
    rw [alloc_size, hg] at this
    rw [hW0]
    exact this.below ((Below.refl _ _).alloc (Nat.le_refl _) _)
  have q0 : Blk W0 G 32 #[.int .i64 0, .int .u32 0, .slice none 0 0, .int .u8 0, .int .u8 0, .int .u8 0, .int .u8 0, .int .u8 0, .int .u8 0, .int .u8 0, .int .u8 0, .int .u8 0, .int .u8 0, .int .u8 0, .int .u8 0, .int .u8 0, .int .u8 0, .int .u8 0, .int .u8 0, .int .u8 0, .int .u8 0, .int .u8 0, .int .u8 0, .int .u8 0, .int .u8 0, .int .u8 0, .int .u8 0, .int .u8 0, .int .u8 0, .int .u8 0, .int .u8 0, .int .u8 0, .int .u8 0, .int .u8 0, .int .u8 0, .int .i64 0, .int .i64 0, .int .i64 0, .int .i64 0, .int .i64 0, .int .u32 0, .int .u64 0, .int .u64 0, .int .u32 0, .int .u32 0, .int .u32 0, .int .u64 0, .slice none 0 0] := by
    have h := Blk.new ((w.alloc (.cells #[.int .i64 0, .int .u32 0, .slice none 0 0, .int .u8 0, .int .u8 0, .int .u8 0, .int .u8 0, .int .u8 0, .int .u8 0, .int .u8 0, .int .u8 0, .int .u8 0, .int .u8 0, .int .u8 0, .int .u8 0, .int .u8 0, .int .u8 0, .int .u8 0, .int .u8 0, .int .u8 0, .int .u8 0, .int .u8 0, .int .u8 0, .int .u8 0, .int .u8 0, .int .u8 0, .int .u8 0, .int .u8 0, .int .u8 0, .int .u8 0, .int .u8 0, .int .u8 0, .int .u8 0, .int .u8 0, .int .u8 0, .int .i64 0, .int .i64 0, .int .i64 0, .int .i64 0, .int .i64 0, .int .u32 0, .int .u64 0, .int .u64 0, .int .u32 0, .int .u32 0, .int .u32 0, .int .u64 0, .slice none 0 0] 32)).alloc (.cells #[.slice A n c, .int .i64 0, .int .i64 0, .int .i64 0, .bool false] 86)) 32 #[.int .i64 0, .int .u32 0, .slice none 0 0, .int .u8 0, .int .u8 0, .int .u8 0, .int .u8 0, .int .u8 0, .int .u8 0, .int .u8 0, .int .u8 0, .int .u8 0, .int .u8 0, .int .u8 0, .int .u8 0, .int .u8 0, .int .u8 0, .int .u8 0, .int .u8 0, .int .u8 0, .int .u8 0, .int .u8 0, .int .u8 0, .int .u8 0, .int .u8 0, .int .u8 0, .int .u8 0, .int .u8 0, .int .u8 0, .int .u8 0, .int .u8 0, .int .u8 0, .int .u8 0, .int .u8 0, .int .u8 0, .int .i64 0, .int .i64 0, .int .i64 0, .int .i64 0, .int .i64 0, .int .u32 0, .int .u64 0, .int .u64 0, .int .u32 0, .int .u32 0, .int .u32 0, .int .u64 0, .slice none 0 0]
    rw [alloc_size, alloc_size, hg, hG] at h
    rw [hW0]
    exact h
  have z0 : Blk W0 w.heap.size 32 #[.int .i64 0, .int .u32 0, .slice none 0 0, .int .u8 0, .int .u8 0, .int .u8 0, .int .u8 0, .int .u8 0, .int .u8 0, .int .u8 0, .int .u8 0, .int .u8 0, .int .u8 0, .int .u8 0, .int .u8 0, .int .u8 0, .int .u8 0, .int .u8 0, .int .u8 0, .int .u8 0, .int .u8 0, .int .u8 0, .int .u8 0, .int .u8 0, .int .u8 0, .int .u8 0, .int .u8 0, .int .u8 0, .int .u8 0, .int .u8 0, .int .u8 0, .int .u8 0, .int .u8 0, .int .u8 0, .int .u8 0, .int .i64 0, .int .i64 0, .int .i64 0, .int .i64 0, .int .i64 0, .int .u32 0, .int .u64 0, .int .u64 0, .int .u32 0, .int .u32 0, .int .u32 0, .int .u64 0, .slice none 0 0] := by rw [hW0]; exact ((Blk.new w _ _).alloc _).alloc _
  have b0 : Below w.heap.size w W0 := by rw [hW0]; exact below_new (below_new (below_new (Below.refl _ _) _) _) _
  have hq : RQ w W0 g G bs (0, none) zeroReq (.slice none 0 0) (.slice none 0 0) :=
    ⟨h0, q0, z0, OwnC.nil _ _, OwnB.nil _ _, b0, ⟨by simp [zeroReq, req0, zeroTok], by intro x hx; simp [zeroReq, req0, zeroTok] at hx; omega, by decide, fun c hc => (nomatch hc), by decide, fun c hc => (nomatch hc), by decide⟩, by omega, by omega⟩
  have HW0 := Lib.hid hW0
  have HQ := Lib.hid hq
  have hwG : w.heap.size < g ∧ g < G := by omega
  clear hW0 h0 q0 z0 b0 hr hb hq
  go_enter Tryd.func9, Tryd.ntmps9
  go_upto_region 3 with (fail)
  rw [← HW0.out]
  clear hg hG
  go_wp2_with fail
  refine (rreader_bytes g bs (0, none) 77 W0 HQ.out.rd HB.out (by omega)).mono ?_
  rintro e w3 ⟨v3, rfl, own3, h3, g3⟩
  obtain ⟨A3, n3, c3, rfl, nc3, mc3, rd3⟩ := OwnB.sl own3
  have HQ3 := Lib.hid (HQ.out.num h3 g3)
  have raw := rBytes_lt bs (0, none) 77 HB.out
  have hlen := rBytes_len bs (0, none) 77 HB.out
  have hrt : reqTok bs = if (tokDec (rBytes bs (0, none) 77).2).1 = none then (rBytes bs (0, none) 77).1 else rRefuse (rBytes bs (0, none) 77).1 (rBytes bs (0, none) 77).1.1 12 := rfl
  have hT : reqT bs = (tokDec (rBytes bs (0, none) 77).2).2 := rfl
  obtain ⟨⟨s3, rw3⟩, hs3⟩ : ∃ x, rBytes bs (0, none) 77 = x := ⟨_, rfl⟩
  rw [hs3] at HQ3 raw hlen hrt hT rd3
  dsimp only at HQ3 raw hlen hrt hT rd3
  have HRT := Lib.hid hrt
  have HT := Lib.hid hT
  have RAW := Lib.hid raw
  have RD3 := Lib.hid rd3
  have hlraw := reads_bytes_le rd3
  have fl3 := HQ3.out.rd.flag
  have HWHY := Lib.hid (reqDec_why bs)
  clear own3 h3 g3 hs3 raw rd3 hrt hT HQ
  cases hs3 : s3.2 with
  | some x =>
    obtain ⟨xa, xy⟩ := x
    have hrq : reqTok bs = s3 := by
      rw [HRT.out]
      split
      · rfl
      · exact rRefuse_ref _ _ _ _ hs3
    have hz := reqDec_tok bs (xa, xy) (by rw [hrq]; exact hs3)
    have hx := HWHY.out (xa, xy) (by rw [hz])
    dsimp only at hx
    have hx' : ¬ (xy : Int) = 0 := by omega
    have HZ := Lib.hid hz
    have HEND : Hid (rEnd bs s3 = some (xa, xy)) := by
      show _ = _
      unfold rEnd
      rw [hs3]
    have hn3 := rNum_ref bs s3 1 _ hs3
    rw [hs3, show (some (xa, xy)).isSome = true from rfl] at fl3
    have RN := fun w h => rreader_number g bs s3 1 w h HB.out
    have es : sizeN 1 = 1 := rfl
    rw [es] at RN
    simp only [hn3] at RN
    have HRN := Lib.hid RN
    clear hz hrq hn3 RN es
    go_wp2_with fail
    refine (HRN.out w3 HQ3.out.rd).mono ?_
    rintro e w4 ⟨rfl, h4, g4⟩
    have HQ4 := Lib.hid (HQ3.out.num h4 g4)
    have c40 := HQ4.out.c0
    rw [show zeroReq.op = 0 from rfl] at c40
    have f40 := HQ4.out.q.frozen 0
    have HQ5 := Lib.hid (HQ4.out.op 0)
    have HFL := Lib.hid hs3
    have fl5 := HQ5.out.rd.flag
    rw [hs3, show (some (xa, xy)).isSome = true from rfl] at fl5
    have c50 := HQ5.out.c0
    have htr : treesB 0 = false := by decide
    clear hs3
    have HQe := HQ5
    go_wp2_with ((with_reducible refine (rq_trees _ _).mono ?_); (rintro _ _ ⟨rfl, rfl⟩))
    refine (rreader_end g bs _ _ HQe.out.rd).mono ?_
    rintro e we ⟨rfl, be⟩
    have HQf := Lib.hid (HQe.out.below be)
    rw [HEND.out, show atOf (some (xa, xy)) = xa from rfl, show whyOf (some (xa, xy)) = xy from rfl]
    go_wp2_with (first
      | (refine wpList_read rfl ⟨.agg zeroReqv.toArray, run_built 32 _ rfl _ _ built_zeroR (by simp [Act.eval]), ?_⟩)
      | (refine wpList_store_row rfl 32 (.tmp 2) (.tmp 156) rfl w.heap.size zeroReqv.toArray rfl rfl 32 _ HQf.out.z zeroReqv_info rfl zeroReqv_one ?_))
    have z := HQf.out.z.setRow zeroReqv.toArray
    refine bodyPost_ret (results_cell_tmp2 rfl rfl (load_req z rfl)) rfl ⟨.slice none 0 0, .slice none 0 0, ?_, ?_, ?_, ?_⟩
    · rw [HZ.out]
      rfl
    · rw [HZ.out]
      exact OwnC.nil _ _
    · rw [HZ.out]
      exact OwnB.nil _ _
    · exact below_setRow HQf.out.b (Nat.le_refl _) _
  | none =>
    rw [hs3, show (none : Option (Nat × Nat)).isSome = false from rfl] at fl3
    have hRD := ref12_decode rw3 A3 n3 c3 w3 RD3.out nc3 (by omega) RAW.out
    have hok := tokDec_Ok rw3 RAW.out
    have hrt := HRT.out
    have hT := HT.out
    obtain ⟨⟨E, T⟩, hET⟩ : ∃ x, tokDec rw3 = x := ⟨_, rfl⟩
    rw [hET] at hRD hok hrt hT
    dsimp only at hRD hok hrt hT
    have hwe : ∀ x, E = some x → x.2 ≠ 0 := fun x hx => tokDec_why rw3 x (by rw [hET]; exact hx)
    have HRD := Lib.hid hRD
    have HOK := Lib.hid hok
    have HTT := Lib.hid hT
    have HS3 := Lib.hid hs3
    clear hRD hok hT hET
    go_wp2_with fail
    refine HRD.out.mono ?_
    rintro e w4 ⟨cav, rfl, own4, b4⟩
    obtain ⟨Ac, nc, cc, rfl, enc, ncc, mcc, -⟩ := OwnC.sl own4
    have HQ4 := Lib.hid (HQ3.out.below b4)
    have own4' : OwnC w4 (g + 1) (.slice Ac nc cc) T.2.1 := OwnC.mono own4 (by have := HQ3.out.rd.lt; omega)
    have lV := tokv_len T.1 (.slice Ac nc cc) T.2.2 HOK.out.1.2.2.1
    have oV := tokv_one T.1 (.slice Ac nc cc) rfl T.2.2
    obtain ⟨V, hV⟩ : ∃ V, tokv T.1 (.slice Ac nc cc) T.2.2 = V := ⟨_, rfl⟩
    rw [hV] at lV oV ⊢
    have IV := Lib.hid (show (Tryd.prog.info? 29).map (·.size) = some V.toArray.size by rw [List.size_toArray, lV]; exact Tryd.tok_info)
    have IV' := Lib.hid (show (Tryd.prog.info? 29).map (·.size) = some V.length by rw [lV]; exact Tryd.tok_info)
    have LV := Lib.hid lV
    have OV := Lib.hid oV
    have HV := Lib.hid hV
    have Z4 := Lib.hid (Blk.new w4 29 #[.int .u32 0, .slice none 0 0, .int .u8 0, .int .u8 0, .int .u8 0, .int .u8 0, .int .u8 0, .int .u8 0, .int .u8 0, .int .u8 0, .int .u8 0, .int .u8 0, .int .u8 0, .int .u8 0, .int .u8 0, .int .u8 0, .int .u8 0, .int .u8 0, .int .u8 0, .int .u8 0, .int .u8 0, .int .u8 0, .int .u8 0, .int .u8 0, .int .u8 0, .int .u8 0, .int .u8 0, .int .u8 0, .int .u8 0, .int .u8 0, .int .u8 0, .int .u8 0, .int .u8 0, .int .u8 0])
    have O4 := Lib.hid own4'
    clear own4 own4' lV oV hV enc b4 fl3
    go_upto_region 6 with (refine wpList_store_row rfl 29 (.tmp 8) (.tmp 26) rfl w4.heap.size V.toArray rfl rfl 29 _ Z4.out IV.out (by simp [LV.out]) (by simpa using OV.out) ?_)
    obtain ⟨w5, hw5⟩ : ∃ x, x = (w4.alloc (.cells #[.int .u32 0, .slice none 0 0, .int .u8 0, .int .u8 0, .int .u8 0, .int .u8 0, .int .u8 0, .int .u8 0, .int .u8 0, .int .u8 0, .int .u8 0, .int .u8 0, .int .u8 0, .int .u8 0, .int .u8 0, .int .u8 0, .int .u8 0, .int .u8 0, .int .u8 0, .int .u8 0, .int .u8 0, .int .u8 0, .int .u8 0, .int .u8 0, .int .u8 0, .int .u8 0, .int .u8 0, .int .u8 0, .int .u8 0, .int .u8 0, .int .u8 0, .int .u8 0, .int .u8 0, .int .u8 0] 29)).setRow w4.heap.size V.toArray := ⟨_, rfl⟩
    rw [← hw5]
    have b45 : Below w4.heap.size w4 w5 := by rw [hw5]; exact below_setRow ((Below.refl _ _).alloc (Nat.le_refl _) _) (Nat.le_refl _) _
    have t5 : Blk w5 w4.heap.size 29 V.toArray := by rw [hw5]; exact Z4.out.setRow _
    have HQ5 := Lib.hid (HQ4.out.below b45)
    have O5 := Lib.hid (O4.out.kept b45)
    have T5 := Lib.hid t5
    clear hw5 b45 t5 Z4 HQ4 O4
    cases E with
    | some y =>
      obtain ⟨ya, yy⟩ := y
      have hy := hwe (ya, yy) rfl
      dsimp only at hy
      have hyi : ¬ (yy : Int) = 0 := by omega
      rw [if_neg (by simp)] at hrt
      have hz := reqDec_tok bs (s3.1, 12) (by rw [hrt]; unfold rRefuse; rw [HS3.out])
      have HZ := Lib.hid hz
      rw [show whyOf (some (ya, yy)) = yy from rfl]
      clear hz
      have c51 : w5.cell? ⟨g, 1, none⟩ = some (.int .i64 (s3.1 : Int)) := by
        obtain ⟨A', n', c', hgb, -⟩ := HQ5.out.rd
        exact (hgb.cell 1).trans rfl
      go_wp2_with fail
      obtain ⟨S, HS⟩ : ∃ S : World → Prop, Hid (∀ w', S w' = (w'.cell? ⟨g, 1, none⟩ = some (.int .i64 (s3.1 : Int)))) := ⟨_, fun _ => rfl⟩
      refine wp_region_seq S 8 [(0, false), (1, false), (2, false), (3, false), (4, false), (5, true), (6, false), (7, false)] (by kernel_rfl) rfl (by kernel_rfl) (by kernel_rfl) (by kernel_rfl) (fun _ _ d _ _ h => by cases d <;> exact h) ((HS.out _).mpr c51) ?_
      refine wpSeq_read rfl rfl ⟨.agg zeroReqv.toArray, fun w1 hS => run_built 32 _ rfl _ _ built_zeroR (by simp [Act.eval]), ?_⟩
      try simp only [Act.put, List.setIfInBounds_toArray, List.set_cons_zero, List.set_cons_succ]
      repeat (refine wpSeq_read rfl rfl ⟨?_, fun w1 hS => ?_, ?_⟩; rotate_left; (focus (rw [HS.out] at hS; go_split_ands; go_simp; (try go_bits); try rfl)); simp only [Act.put, List.setIfInBounds_toArray, List.set_cons_zero, List.set_cons_succ])
      refine wpSeq_write rfl rfl ?_
      refine wp_store_row 32 (.tmp 2) (.tmp 31) rfl w.heap.size zeroReqv.toArray rfl rfl 32 _ HQ5.out.z zeroReqv_info rfl zeroReqv_one ?_
      have z := HQ5.out.z.setRow zeroReqv.toArray
      have hne : g ≠ w.heap.size := by omega
      have c52 : (w5.drew.setRow w.heap.size zeroReqv.toArray).cell? ⟨g, 1, none⟩ = some (.int .i64 (s3.1 : Int)) := by
        obtain ⟨A', n', c', hgb, -⟩ := HQ5.out.rd
        exact ((Blk.setRow_far (w := w5.drew) hgb hne zeroReqv.toArray).cell 1).trans rfl
      refine ⟨fun _ => (HS.out _).mpr c52, ?_⟩
      try simp only [Act.put, List.setIfInBounds_toArray, List.set_cons_zero, List.set_cons_succ]
      repeat (refine wpSeq_read rfl rfl ⟨?_, fun w1 hS => ?_, ?_⟩; rotate_left; (focus (rw [HS.out] at hS; go_split_ands; go_simp; (try go_bits); try rfl)); simp only [Act.put, List.setIfInBounds_toArray, List.set_cons_zero, List.set_cons_succ])
      refine wpSeq_nil ?_
      go_wp2_with fail
      refine bodyPost_ret (results_cell_tmp2 rfl rfl (load_req z rfl)) rfl ⟨.slice none 0 0, .slice none 0 0, ?_, ?_, ?_, ?_⟩
      · rw [HZ.out]
        rfl
      · rw [HZ.out]
        exact OwnC.nil _ _
      · rw [HZ.out]
        exact OwnB.nil _ _
      · exact below_setRow HQ5.out.b.drew (Nat.le_refl _) _
    | none =>
      rw [if_pos rfl] at hrt
      rw [show whyOf (none : Option (Nat × Nat)) = 0 from rfl]
      have hmid : Blk w5 G 32 ((#[.int .i64 0, .int .u32 0, .slice none 0 0, .int .u8 0, .int .u8 0, .int .u8 0, .int .u8 0, .int .u8 0, .int .u8 0, .int .u8 0, .int .u8 0, .int .u8 0, .int .u8 0, .int .u8 0, .int .u8 0, .int .u8 0, .int .u8 0, .int .u8 0, .int .u8 0, .int .u8 0, .int .u8 0, .int .u8 0, .int .u8 0, .int .u8 0, .int .u8 0, .int .u8 0, .int .u8 0, .int .u8 0, .int .u8 0, .int .u8 0, .int .u8 0, .int .u8 0, .int .u8 0, .int .u8 0, .int .u8 0, .int .i64 0, .int .i64 0, .int .i64 0, .int .i64 0, .int .i64 0, .int .u32 0, .int .u64 0, .int .u64 0, .int .u32 0, .int .u32 0, .int .u32 0, .int .u64 0, .slice none 0 0] : Array Value).toList).toArray := HQ5.out.q
      have TH := Lib.hid (show w5.there G 1 V.toArray.size by rw [List.size_toArray, LV.out]; exact there_blk hmid 1 34 (by decide))
      have OV' := Lib.hid (all_oneCell_toArray OV.out)
      have RGV := Lib.hid (rangeAt_blk T5.out 0 V (fun j u h => by simpa using h))
      have HQ6 := Lib.hid (HQ5.out.tok HOK.out.1 HOK.out.2 O5.out)
      rw [HV.out] at HQ6
      clear hmid
      go_upto_region 9 with (first
        | (refine load_mid_want rfl 29 (.tmp 8) rfl w4.heap.size 0 rfl V _ RGV.out Tryd.underlying29 rfl IV'.out ?_)
        | (refine wpList_store_mid rfl 29 (.tmp 37) (.tmp 36) rfl G 1 V.toArray rfl rfl TH.out IV.out OV'.out ?_))
      obtain ⟨w6, hw6⟩ : ∃ x, x = w5.setCells G 1 V := ⟨_, rfl⟩
      rw [← hw6] at HQ6 ⊢
      clear hw6 TH RGV
      have RN := fun w h => rreader_number g bs s3 1 w h HB.out
      have kl := rNum_lt bs s3 1 HB.out
      have k0 := rNum_none bs s3 1
      have es : sizeN 1 = 1 := rfl
      rw [es] at RN
      obtain ⟨⟨s7, k⟩, hk⟩ : ∃ x, rNum bs s3 1 = x := ⟨_, rfl⟩
      simp only [hk] at RN kl k0
      have hk' : rNum bs (reqTok bs) 1 = (s7, k) := by rw [hrt]; exact hk
      have HM := Lib.hid hk'
      have HRN := Lib.hid RN
      have k256 : k < 256 := Nat.lt_of_lt_of_eq kl (by decide)
      have kw : IntKind.i64.wrap (k : Int) = k := IntWalk.i64_in _ (by omega)
      clear RN kl es hk hk' hrt
      go_wp2_with fail
      refine (HRN.out w6 HQ6.out.rd).mono ?_
      rintro e w7 ⟨rfl, h7, g7⟩
      have HQ7 := Lib.hid (HQ6.out.num h7 g7)
      have c70 := HQ7.out.c0
      rw [show (req0 T 0).op = 0 from rfl] at c70
      have f70 := HQ7.out.q.frozen 0
      have HQ8 := Lib.hid (HQ7.out.op (k : Int))
      clear h7 g7 HQ6 HQ7
      go_upto_region 10 with (fail)
      obtain ⟨w8, hw8⟩ : ∃ x, x = w7.setCell ⟨G, 0, none⟩ (.int .i64 (k : Int)) := ⟨_, rfl⟩
      rw [← hw8] at HQ8 ⊢
      have HQc : Hid (RQ w w8 g G bs s7 (req0 T (k : Int)) (.slice Ac nc cc) (.slice none 0 0)) := HQ8
      clear hw8 c70 f70 HQ8
      have fl8 := HQc.out.rd.flag
      have c80 := HQc.out.c0
      rw [show (req0 T (k : Int)).op = (k : Int) from rfl] at c80
      cases h7n : s7.2 with
      | some x =>
        obtain ⟨xa, xy⟩ := x
        have k00 : k = 0 := k0 (by rw [h7n]; simp)
        subst k00
        have hz := reqDec_op bs s7 0 (xa, xy) HM.out h7n
        have hx := HWHY.out (xa, xy) (by rw [hz])
        dsimp only at hx
        have hx' : ¬ (xy : Int) = 0 := by omega
        have HZ := Lib.hid hz
        have HEND : Hid (rEnd bs s7 = some (xa, xy)) := by
          show _ = _
          unfold rEnd
          rw [h7n]
        rw [h7n, show (some (xa, xy)).isSome = true from rfl] at fl8
        have htr : treesB 0 = false := by decide
        have HQe := HQc
        clear hz hx h7n
        go_wp2_with ((with_reducible refine (rq_trees _ _).mono ?_); (rintro _ _ ⟨rfl, rfl⟩))
        refine (rreader_end g bs _ _ HQe.out.rd).mono ?_
        rintro e we ⟨rfl, be⟩
        have HQf := Lib.hid (HQe.out.below be)
        rw [HEND.out, show atOf (some (xa, xy)) = xa from rfl, show whyOf (some (xa, xy)) = xy from rfl]
        go_wp2_with (first
          | (refine wpList_read rfl ⟨.agg zeroReqv.toArray, run_built 32 _ rfl _ _ built_zeroR (by simp [Act.eval]), ?_⟩)
          | (refine wpList_store_row rfl 32 (.tmp 2) (.tmp 156) rfl w.heap.size zeroReqv.toArray rfl rfl 32 _ HQf.out.z zeroReqv_info rfl zeroReqv_one ?_))
        have z := HQf.out.z.setRow zeroReqv.toArray
        refine bodyPost_ret (results_cell_tmp2 rfl rfl (load_req z rfl)) rfl ⟨.slice none 0 0, .slice none 0 0, ?_, ?_, ?_, ?_⟩
        · rw [HZ.out]
          rfl
        · rw [HZ.out]
          exact OwnC.nil _ _
        · rw [HZ.out]
          exact OwnB.nil _ _
        · exact below_setRow HQf.out.b (Nat.le_refl _) _
      | none =>
        rw [h7n, show (none : Option (Nat × Nat)).isSome = false from rfl] at fl8
        by_cases hk : 1 ≤ k ∧ k ≤ 12
        · have H7N := Lib.hid h7n
          clear h7n k0 kw k256
          rcases fields_good k hk with rfl | rfl | rfl | rfl | rfl | rfl | rfl | rfl | rfl | rfl | rfl | rfl
          · have ktr : treesB 1 = true := by decide
            have RN0 := fun w h => rreader_number g bs s7 1 w h HB.out
            have bd0 := rNum_lt bs s7 1 HB.out
            have es0 : sizeN 1 = 1 := rfl
            rw [es0] at RN0
            obtain ⟨⟨u0, m0⟩, hm0⟩ : ∃ x, rNum bs s7 1 = x := ⟨_, rfl⟩
            simp only [hm0] at RN0 bd0
            have lm0 : m0 < 256 := Nat.lt_of_lt_of_eq bd0 (by decide)
            have nw0 : IntKind.i64.wrap (m0 : Int) = m0 := IntWalk.i64_in _ (by omega)
            have HRN0 := Lib.hid RN0
            have HM0 := Lib.hid hm0
            clear RN0 bd0 es0 hm0
            go_wp2_with ((with_reducible refine (rq_trees _ _).mono ?_); (rintro _ _ ⟨rfl, rfl⟩))
            refine (HRN0.out _ HQc.out.rd).mono ?_
            rintro e v0 ⟨rfl, hb0, gb0⟩
            have HQn := Lib.hid (HQc.out.num hb0 gb0)
            obtain ⟨vx0, hv0⟩ := fld_at _ _ _ HQn.out.fine.tag (1, 1, 35) (by simp [IsFld]) (by decide)
            have cx0 := HQn.out.q.cell 35
            rw [List.getElem?_toArray, hv0] at cx0
            have fx0 := HQn.out.q.frozen 35
            have HQp := Lib.hid (HQn.out.put (1, 1, 35) (by simp [IsFld]) (by decide) m0)
            clear hb0 gb0 HQc
            have HQc : Hid (RQ w (v0.setCell ⟨G, 35, none⟩ (.int .i64 (m0 : Int))) g G bs u0 _ _ _) := HQp.out
            have co0 := HQc.out.c0
            clear HQn HQp
            have RB9 := fun w h => rreader_bytes g bs u0 256 w h HB.out (by omega)
            have lb9 := rBytes_lt bs u0 256 HB.out
            have ll9 := rBytes_len bs u0 256 HB.out
            obtain ⟨⟨u9, lf⟩, hm9⟩ : ∃ x, rBytes bs u0 256 = x := ⟨_, rfl⟩
            simp only [hm9] at RB9 lb9 ll9
            have HRB9 := Lib.hid RB9
            have HM9 := Lib.hid hm9
            have LB9 := Lib.hid lb9
            have LL9 := Lib.hid ll9
            clear RB9 lb9 ll9 hm9
            go_wp2_with ((with_reducible refine (rq_trees _ _).mono ?_); (rintro _ _ ⟨rfl, rfl⟩))
            refine (HRB9.out _ HQc.out.rd).mono ?_
            rintro e v9 ⟨lv9, rfl, ow9, hb9, gb9⟩
            obtain ⟨Al9, nl9, cl9, rfl, -, -, -⟩ := OwnB.sl ow9
            have HQn := Lib.hid (HQc.out.num hb9 gb9)
            have cx9 := HQn.out.q.cell 47
            rw [List.getElem?_toArray, (reqv_rest _ _ _ HQn.out.fine.tag 12).trans rfl] at cx9
            have fx9 := HQn.out.q.frozen 47
            have HQp := Lib.hid (HQc.out.leaf hb9 gb9 ow9 LB9.out LL9.out)
            clear hb9 gb9 HQc ow9
            have HQc := HQp
            clear HQn HQp
            have HGD := Lib.hid (reqDec_good bs s7 1 [(1, 1, 35), (0, 0, 0)] T u9 _ HM.out (by decide) HTT.out (by simp only [reqGo, HM0.out, HM9.out]; rfl))
            go_wp2_with ((with_reducible refine (rq_trees _ _).mono ?_); (rintro _ _ ⟨rfl, rfl⟩))
            refine (rreader_end g bs _ _ HQc.out.rd).mono ?_
            rintro e we ⟨rfl, be⟩
            have HQf := Lib.hid (HQc.out.below be)
            have hd := HGD.out
            cases hend : rEnd bs u9 with
            | none =>
              rw [hend] at hd
              dsimp only at hd
              have HD2 := Lib.hid hd
              obtain ⟨M, hM, lM, oM, bM⟩ := HQf.out.cells rfl rfl
              have RG := Lib.hid (rangeAt_blk bM 0 M (fun j u h => by simpa using h))
              have IM := Lib.hid (show (Tryd.prog.info? 32).map (·.size) = some M.length by rw [lM]; exact Tryd.req_info)
              have IM' := Lib.hid (show (Tryd.prog.info? 32).map (·.size) = some M.toArray.size by rw [List.size_toArray, lM]; exact Tryd.req_info)
              have LM := Lib.hid lM
              have OM := Lib.hid oM
              have EM := Lib.hid hM
              clear lM oM hM bM hd be hend HGD
              rw [show ((atOf none : Nat) : Int) = 0 from rfl, show ((whyOf none : Nat) : Int) = 0 from rfl]
              go_wp2_with (first
                | (refine load_mid_want rfl 32 (.tmp 6) rfl G 0 rfl M _ RG.out Tryd.underlying32 rfl IM.out ?_)
                | (refine wpList_store_row rfl 32 (.tmp 2) (.tmp 159) rfl w.heap.size M.toArray rfl rfl 32 _ HQf.out.z IM'.out (by simp [LM.out]) (by simpa using OM.out) ?_))
              have z := HQf.out.z.setRow M.toArray
              refine bodyPost_ret (results_cell_tmp2 rfl rfl (load_req z LM.out)) rfl ⟨.slice Ac nc cc, .slice Al9 nl9 cl9, ?_, ?_, ?_, ?_⟩
              · rw [HD2.out, ← EM.out]
                rfl
              · rw [HD2.out]
                exact OwnC.mono (World.ownsRow.kept HQf.out.c (grown_setRow _ _ _) (.inr (own_blk_ne HQf.out.c HQf.out.z (by decide)))) (by have := HQf.out.wg; omega)
              · rw [HD2.out]
                exact OwnB.mono (World.ownsRow.kept HQf.out.l (grown_setRow _ _ _) (.inr (own_blk_ne HQf.out.l HQf.out.z (by decide)))) (by have := HQf.out.wg; omega)
              · exact below_setRow HQf.out.b (Nat.le_refl _) _
            | some x =>
              obtain ⟨xa, xy⟩ := x
              rw [hend] at hd
              dsimp only at hd
              have hx := HWHY.out (xa, xy) (by rw [hd])
              dsimp only at hx
              have hx' : ¬ (xy : Int) = 0 := by omega
              have HZ := Lib.hid hd
              clear hd hend be HGD hx
              rw [show atOf (some (xa, xy)) = xa from rfl, show whyOf (some (xa, xy)) = xy from rfl]
              go_wp2_with (first
                | (refine wpList_read rfl ⟨.agg zeroReqv.toArray, run_built 32 _ rfl _ _ built_zeroR (by simp [Act.eval]), ?_⟩)
                | (refine wpList_store_row rfl 32 (.tmp 2) (.tmp 156) rfl w.heap.size zeroReqv.toArray rfl rfl 32 _ HQf.out.z zeroReqv_info rfl zeroReqv_one ?_))
              have z := HQf.out.z.setRow zeroReqv.toArray
              refine bodyPost_ret (results_cell_tmp2 rfl rfl (load_req z rfl)) rfl ⟨.slice none 0 0, .slice none 0 0, ?_, ?_, ?_, ?_⟩
              · rw [HZ.out]
                rfl
              · rw [HZ.out]
                exact OwnC.nil _ _
              · rw [HZ.out]
                exact OwnB.nil _ _
              · exact below_setRow HQf.out.b (Nat.le_refl _) _
          · have ktr : treesB 2 = true := by decide
            have RN0 := fun w h => rreader_number g bs s7 1 w h HB.out
            have bd0 := rNum_lt bs s7 1 HB.out
            have es0 : sizeN 1 = 1 := rfl
            rw [es0] at RN0
            obtain ⟨⟨u0, m0⟩, hm0⟩ : ∃ x, rNum bs s7 1 = x := ⟨_, rfl⟩
            simp only [hm0] at RN0 bd0
            have lm0 : m0 < 256 := Nat.lt_of_lt_of_eq bd0 (by decide)
            have nw0 : IntKind.i64.wrap (m0 : Int) = m0 := IntWalk.i64_in _ (by omega)
            have HRN0 := Lib.hid RN0
            have HM0 := Lib.hid hm0
            clear RN0 bd0 es0 hm0
            go_wp2_with ((with_reducible refine (rq_trees _ _).mono ?_); (rintro _ _ ⟨rfl, rfl⟩))
            refine (HRN0.out _ HQc.out.rd).mono ?_
            rintro e v0 ⟨rfl, hb0, gb0⟩
            have HQn := Lib.hid (HQc.out.num hb0 gb0)
            obtain ⟨vx0, hv0⟩ := fld_at _ _ _ HQn.out.fine.tag (1, 1, 35) (by simp [IsFld]) (by decide)
            have cx0 := HQn.out.q.cell 35
            rw [List.getElem?_toArray, hv0] at cx0
            have fx0 := HQn.out.q.frozen 35
            have HQp := Lib.hid (HQn.out.put (1, 1, 35) (by simp [IsFld]) (by decide) m0)
            clear hb0 gb0 HQc
            have HQc : Hid (RQ w (v0.setCell ⟨G, 35, none⟩ (.int .i64 (m0 : Int))) g G bs u0 _ _ _) := HQp.out
            have co0 := HQc.out.c0
            clear HQn HQp
            have HGD := Lib.hid (reqDec_good bs s7 2 [(1, 1, 35)] T u0 _ HM.out (by decide) HTT.out (by simp only [reqGo, HM0.out]; rfl))
            go_wp2_with ((with_reducible refine (rq_trees _ _).mono ?_); (rintro _ _ ⟨rfl, rfl⟩))
            refine (rreader_end g bs _ _ HQc.out.rd).mono ?_
            rintro e we ⟨rfl, be⟩
            have HQf := Lib.hid (HQc.out.below be)
            have hd := HGD.out
            cases hend : rEnd bs u0 with
            | none =>
              rw [hend] at hd
              dsimp only at hd
              have HD2 := Lib.hid hd
              obtain ⟨M, hM, lM, oM, bM⟩ := HQf.out.cells rfl rfl
              have RG := Lib.hid (rangeAt_blk bM 0 M (fun j u h => by simpa using h))
              have IM := Lib.hid (show (Tryd.prog.info? 32).map (·.size) = some M.length by rw [lM]; exact Tryd.req_info)
              have IM' := Lib.hid (show (Tryd.prog.info? 32).map (·.size) = some M.toArray.size by rw [List.size_toArray, lM]; exact Tryd.req_info)
              have LM := Lib.hid lM
              have OM := Lib.hid oM
              have EM := Lib.hid hM
              clear lM oM hM bM hd be hend HGD
              rw [show ((atOf none : Nat) : Int) = 0 from rfl, show ((whyOf none : Nat) : Int) = 0 from rfl]
              go_wp2_with (first
                | (refine load_mid_want rfl 32 (.tmp 6) rfl G 0 rfl M _ RG.out Tryd.underlying32 rfl IM.out ?_)
                | (refine wpList_store_row rfl 32 (.tmp 2) (.tmp 159) rfl w.heap.size M.toArray rfl rfl 32 _ HQf.out.z IM'.out (by simp [LM.out]) (by simpa using OM.out) ?_))
              have z := HQf.out.z.setRow M.toArray
              refine bodyPost_ret (results_cell_tmp2 rfl rfl (load_req z LM.out)) rfl ⟨.slice Ac nc cc, .slice none 0 0, ?_, ?_, ?_, ?_⟩
              · rw [HD2.out, ← EM.out]
                rfl
              · rw [HD2.out]
                exact OwnC.mono (World.ownsRow.kept HQf.out.c (grown_setRow _ _ _) (.inr (own_blk_ne HQf.out.c HQf.out.z (by decide)))) (by have := HQf.out.wg; omega)
              · rw [HD2.out]
                exact OwnB.mono (World.ownsRow.kept HQf.out.l (grown_setRow _ _ _) (.inr (own_blk_ne HQf.out.l HQf.out.z (by decide)))) (by have := HQf.out.wg; omega)
              · exact below_setRow HQf.out.b (Nat.le_refl _) _
            | some x =>
              obtain ⟨xa, xy⟩ := x
              rw [hend] at hd
              dsimp only at hd
              have hx := HWHY.out (xa, xy) (by rw [hd])
              dsimp only at hx
              have hx' : ¬ (xy : Int) = 0 := by omega
              have HZ := Lib.hid hd
              clear hd hend be HGD hx
              rw [show atOf (some (xa, xy)) = xa from rfl, show whyOf (some (xa, xy)) = xy from rfl]
              go_wp2_with (first
                | (refine wpList_read rfl ⟨.agg zeroReqv.toArray, run_built 32 _ rfl _ _ built_zeroR (by simp [Act.eval]), ?_⟩)
                | (refine wpList_store_row rfl 32 (.tmp 2) (.tmp 156) rfl w.heap.size zeroReqv.toArray rfl rfl 32 _ HQf.out.z zeroReqv_info rfl zeroReqv_one ?_))
              have z := HQf.out.z.setRow zeroReqv.toArray
              refine bodyPost_ret (results_cell_tmp2 rfl rfl (load_req z rfl)) rfl ⟨.slice none 0 0, .slice none 0 0, ?_, ?_, ?_, ?_⟩
              · rw [HZ.out]
                rfl
              · rw [HZ.out]
                exact OwnC.nil _ _
              · rw [HZ.out]
                exact OwnB.nil _ _
              · exact below_setRow HQf.out.b (Nat.le_refl _) _
          · have ktr : treesB 3 = true := by decide
            have RN0 := fun w h => rreader_number g bs s7 1 w h HB.out
            have bd0 := rNum_lt bs s7 1 HB.out
            have es0 : sizeN 1 = 1 := rfl
            rw [es0] at RN0
            obtain ⟨⟨u0, m0⟩, hm0⟩ : ∃ x, rNum bs s7 1 = x := ⟨_, rfl⟩
            simp only [hm0] at RN0 bd0
            have lm0 : m0 < 256 := Nat.lt_of_lt_of_eq bd0 (by decide)
            have nw0 : IntKind.i64.wrap (m0 : Int) = m0 := IntWalk.i64_in _ (by omega)
            have HRN0 := Lib.hid RN0
            have HM0 := Lib.hid hm0
            clear RN0 bd0 es0 hm0
            go_wp2_with ((with_reducible refine (rq_trees _ _).mono ?_); (rintro _ _ ⟨rfl, rfl⟩))
            refine (HRN0.out _ HQc.out.rd).mono ?_
            rintro e v0 ⟨rfl, hb0, gb0⟩
            have HQn := Lib.hid (HQc.out.num hb0 gb0)
            obtain ⟨vx0, hv0⟩ := fld_at _ _ _ HQn.out.fine.tag (1, 1, 35) (by simp [IsFld]) (by decide)
            have cx0 := HQn.out.q.cell 35
            rw [List.getElem?_toArray, hv0] at cx0
            have fx0 := HQn.out.q.frozen 35
            have HQp := Lib.hid (HQn.out.put (1, 1, 35) (by simp [IsFld]) (by decide) m0)
            clear hb0 gb0 HQc
            have HQc : Hid (RQ w (v0.setCell ⟨G, 35, none⟩ (.int .i64 (m0 : Int))) g G bs u0 _ _ _) := HQp.out
            have co0 := HQc.out.c0
            clear HQn HQp
            have RN1 := fun w h => rreader_number g bs u0 8 w h HB.out
            have bd1 := rNum_lt bs u0 8 HB.out
            have es1 : sizeN 8 = 8 := rfl
            rw [es1] at RN1
            obtain ⟨⟨u1, m1⟩, hm1⟩ : ∃ x, rNum bs u0 8 = x := ⟨_, rfl⟩
            simp only [hm1] at RN1 bd1
            have lm1 : m1 < 18446744073709551616 := Nat.lt_of_lt_of_eq bd1 (by decide)
            have nw1 : (0 : Nat) = 0 := rfl
            have HRN1 := Lib.hid RN1
            have HM1 := Lib.hid hm1
            clear RN1 bd1 es1 hm1
            go_wp2_with ((with_reducible refine (rq_trees _ _).mono ?_); (rintro _ _ ⟨rfl, rfl⟩))
            refine (HRN1.out _ HQc.out.rd).mono ?_
            rintro e v1 ⟨rfl, hb1, gb1⟩
            have HQn := Lib.hid (HQc.out.num hb1 gb1)
            obtain ⟨vx1, hv1⟩ := fld_at _ _ _ HQn.out.fine.tag (8, 3, 41) (by simp [IsFld]) (by decide)
            have cx1 := HQn.out.q.cell 41
            rw [List.getElem?_toArray, hv1] at cx1
            have fx1 := HQn.out.q.frozen 41
            have HQp := Lib.hid (HQn.out.put (8, 3, 41) (by simp [IsFld]) (by decide) m1)
            clear hb1 gb1 HQc
            have HQc : Hid (RQ w (v1.setCell ⟨G, 41, none⟩ (.int .u64 (m1 : Int))) g G bs u1 _ _ _) := HQp.out
            have co1 := HQc.out.c0
            clear HQn HQp
            have HGD := Lib.hid (reqDec_good bs s7 3 [(1, 1, 35), (8, 3, 41)] T u1 _ HM.out (by decide) HTT.out (by simp only [reqGo, HM0.out, HM1.out]; rfl))
            go_wp2_with ((with_reducible refine (rq_trees _ _).mono ?_); (rintro _ _ ⟨rfl, rfl⟩))
            refine (rreader_end g bs _ _ HQc.out.rd).mono ?_
            rintro e we ⟨rfl, be⟩
            have HQf := Lib.hid (HQc.out.below be)
            have hd := HGD.out
            cases hend : rEnd bs u1 with
            | none =>
              rw [hend] at hd
              dsimp only at hd
              have HD2 := Lib.hid hd
              obtain ⟨M, hM, lM, oM, bM⟩ := HQf.out.cells rfl rfl
              have RG := Lib.hid (rangeAt_blk bM 0 M (fun j u h => by simpa using h))
              have IM := Lib.hid (show (Tryd.prog.info? 32).map (·.size) = some M.length by rw [lM]; exact Tryd.req_info)
              have IM' := Lib.hid (show (Tryd.prog.info? 32).map (·.size) = some M.toArray.size by rw [List.size_toArray, lM]; exact Tryd.req_info)
              have LM := Lib.hid lM
              have OM := Lib.hid oM
              have EM := Lib.hid hM
              clear lM oM hM bM hd be hend HGD
              rw [show ((atOf none : Nat) : Int) = 0 from rfl, show ((whyOf none : Nat) : Int) = 0 from rfl]
              go_wp2_with (first
                | (refine load_mid_want rfl 32 (.tmp 6) rfl G 0 rfl M _ RG.out Tryd.underlying32 rfl IM.out ?_)
                | (refine wpList_store_row rfl 32 (.tmp 2) (.tmp 159) rfl w.heap.size M.toArray rfl rfl 32 _ HQf.out.z IM'.out (by simp [LM.out]) (by simpa using OM.out) ?_))
              have z := HQf.out.z.setRow M.toArray
              refine bodyPost_ret (results_cell_tmp2 rfl rfl (load_req z LM.out)) rfl ⟨.slice Ac nc cc, .slice none 0 0, ?_, ?_, ?_, ?_⟩
              · rw [HD2.out, ← EM.out]
                rfl
              · rw [HD2.out]
                exact OwnC.mono (World.ownsRow.kept HQf.out.c (grown_setRow _ _ _) (.inr (own_blk_ne HQf.out.c HQf.out.z (by decide)))) (by have := HQf.out.wg; omega)
              · rw [HD2.out]
                exact OwnB.mono (World.ownsRow.kept HQf.out.l (grown_setRow _ _ _) (.inr (own_blk_ne HQf.out.l HQf.out.z (by decide)))) (by have := HQf.out.wg; omega)
              · exact below_setRow HQf.out.b (Nat.le_refl _) _
            | some x =>
              obtain ⟨xa, xy⟩ := x
              rw [hend] at hd
              dsimp only at hd
              have hx := HWHY.out (xa, xy) (by rw [hd])
              dsimp only at hx
              have hx' : ¬ (xy : Int) = 0 := by omega
              have HZ := Lib.hid hd
              clear hd hend be HGD hx
              rw [show atOf (some (xa, xy)) = xa from rfl, show whyOf (some (xa, xy)) = xy from rfl]
              go_wp2_with (first
                | (refine wpList_read rfl ⟨.agg zeroReqv.toArray, run_built 32 _ rfl _ _ built_zeroR (by simp [Act.eval]), ?_⟩)
                | (refine wpList_store_row rfl 32 (.tmp 2) (.tmp 156) rfl w.heap.size zeroReqv.toArray rfl rfl 32 _ HQf.out.z zeroReqv_info rfl zeroReqv_one ?_))
              have z := HQf.out.z.setRow zeroReqv.toArray
              refine bodyPost_ret (results_cell_tmp2 rfl rfl (load_req z rfl)) rfl ⟨.slice none 0 0, .slice none 0 0, ?_, ?_, ?_, ?_⟩
              · rw [HZ.out]
                rfl
              · rw [HZ.out]
                exact OwnC.nil _ _
              · rw [HZ.out]
                exact OwnB.nil _ _
              · exact below_setRow HQf.out.b (Nat.le_refl _) _
          · have ktr : treesB 4 = true := by decide
            have RN0 := fun w h => rreader_number g bs s7 1 w h HB.out
            have bd0 := rNum_lt bs s7 1 HB.out
            have es0 : sizeN 1 = 1 := rfl
            rw [es0] at RN0
            obtain ⟨⟨u0, m0⟩, hm0⟩ : ∃ x, rNum bs s7 1 = x := ⟨_, rfl⟩
            simp only [hm0] at RN0 bd0
            have lm0 : m0 < 256 := Nat.lt_of_lt_of_eq bd0 (by decide)
            have nw0 : IntKind.i64.wrap (m0 : Int) = m0 := IntWalk.i64_in _ (by omega)
            have HRN0 := Lib.hid RN0
            have HM0 := Lib.hid hm0
            clear RN0 bd0 es0 hm0
            go_wp2_with ((with_reducible refine (rq_trees _ _).mono ?_); (rintro _ _ ⟨rfl, rfl⟩))
            refine (HRN0.out _ HQc.out.rd).mono ?_
            rintro e v0 ⟨rfl, hb0, gb0⟩
            have HQn := Lib.hid (HQc.out.num hb0 gb0)
            obtain ⟨vx0, hv0⟩ := fld_at _ _ _ HQn.out.fine.tag (1, 1, 35) (by simp [IsFld]) (by decide)
            have cx0 := HQn.out.q.cell 35
            rw [List.getElem?_toArray, hv0] at cx0
            have fx0 := HQn.out.q.frozen 35
            have HQp := Lib.hid (HQn.out.put (1, 1, 35) (by simp [IsFld]) (by decide) m0)
            clear hb0 gb0 HQc
            have HQc : Hid (RQ w (v0.setCell ⟨G, 35, none⟩ (.int .i64 (m0 : Int))) g G bs u0 _ _ _) := HQp.out
            have co0 := HQc.out.c0
            clear HQn HQp
            have RN1 := fun w h => rreader_number g bs u0 8 w h HB.out
            have bd1 := rNum_lt bs u0 8 HB.out
            have es1 : sizeN 8 = 8 := rfl
            rw [es1] at RN1
            obtain ⟨⟨u1, m1⟩, hm1⟩ : ∃ x, rNum bs u0 8 = x := ⟨_, rfl⟩
            simp only [hm1] at RN1 bd1
            have lm1 : m1 < 18446744073709551616 := Nat.lt_of_lt_of_eq bd1 (by decide)
            have nw1 : (0 : Nat) = 0 := rfl
            have HRN1 := Lib.hid RN1
            have HM1 := Lib.hid hm1
            clear RN1 bd1 es1 hm1
            go_wp2_with ((with_reducible refine (rq_trees _ _).mono ?_); (rintro _ _ ⟨rfl, rfl⟩))
            refine (HRN1.out _ HQc.out.rd).mono ?_
            rintro e v1 ⟨rfl, hb1, gb1⟩
            have HQn := Lib.hid (HQc.out.num hb1 gb1)
            obtain ⟨vx1, hv1⟩ := fld_at _ _ _ HQn.out.fine.tag (8, 3, 41) (by simp [IsFld]) (by decide)
            have cx1 := HQn.out.q.cell 41
            rw [List.getElem?_toArray, hv1] at cx1
            have fx1 := HQn.out.q.frozen 41
            have HQp := Lib.hid (HQn.out.put (8, 3, 41) (by simp [IsFld]) (by decide) m1)
            clear hb1 gb1 HQc
            have HQc : Hid (RQ w (v1.setCell ⟨G, 41, none⟩ (.int .u64 (m1 : Int))) g G bs u1 _ _ _) := HQp.out
            have co1 := HQc.out.c0
            clear HQn HQp
            have RN2 := fun w h => rreader_number g bs u1 8 w h HB.out
            have bd2 := rNum_lt bs u1 8 HB.out
            have es2 : sizeN 8 = 8 := rfl
            rw [es2] at RN2
            obtain ⟨⟨u2, m2⟩, hm2⟩ : ∃ x, rNum bs u1 8 = x := ⟨_, rfl⟩
            simp only [hm2] at RN2 bd2
            have lm2 : m2 < 18446744073709551616 := Nat.lt_of_lt_of_eq bd2 (by decide)
            have nw2 : (0 : Nat) = 0 := rfl
            have HRN2 := Lib.hid RN2
            have HM2 := Lib.hid hm2
            clear RN2 bd2 es2 hm2
            go_wp2_with ((with_reducible refine (rq_trees _ _).mono ?_); (rintro _ _ ⟨rfl, rfl⟩))
            refine (HRN2.out _ HQc.out.rd).mono ?_
            rintro e v2 ⟨rfl, hb2, gb2⟩
            have HQn := Lib.hid (HQc.out.num hb2 gb2)
            obtain ⟨vx2, hv2⟩ := fld_at _ _ _ HQn.out.fine.tag (8, 3, 42) (by simp [IsFld]) (by decide)
            have cx2 := HQn.out.q.cell 42
            rw [List.getElem?_toArray, hv2] at cx2
            have fx2 := HQn.out.q.frozen 42
            have HQp := Lib.hid (HQn.out.put (8, 3, 42) (by simp [IsFld]) (by decide) m2)
            clear hb2 gb2 HQc
            have HQc : Hid (RQ w (v2.setCell ⟨G, 42, none⟩ (.int .u64 (m2 : Int))) g G bs u2 _ _ _) := HQp.out
            have co2 := HQc.out.c0
            clear HQn HQp
            have HGD := Lib.hid (reqDec_good bs s7 4 [(1, 1, 35), (8, 3, 41), (8, 3, 42)] T u2 _ HM.out (by decide) HTT.out (by simp only [reqGo, HM0.out, HM1.out, HM2.out]; rfl))
            go_wp2_with ((with_reducible refine (rq_trees _ _).mono ?_); (rintro _ _ ⟨rfl, rfl⟩))
            refine (rreader_end g bs _ _ HQc.out.rd).mono ?_
            rintro e we ⟨rfl, be⟩
            have HQf := Lib.hid (HQc.out.below be)
            have hd := HGD.out
            cases hend : rEnd bs u2 with
            | none =>
              rw [hend] at hd
              dsimp only at hd
              have HD2 := Lib.hid hd
              obtain ⟨M, hM, lM, oM, bM⟩ := HQf.out.cells rfl rfl
              have RG := Lib.hid (rangeAt_blk bM 0 M (fun j u h => by simpa using h))
              have IM := Lib.hid (show (Tryd.prog.info? 32).map (·.size) = some M.length by rw [lM]; exact Tryd.req_info)
              have IM' := Lib.hid (show (Tryd.prog.info? 32).map (·.size) = some M.toArray.size by rw [List.size_toArray, lM]; exact Tryd.req_info)
              have LM := Lib.hid lM
              have OM := Lib.hid oM
              have EM := Lib.hid hM
              clear lM oM hM bM hd be hend HGD
              rw [show ((atOf none : Nat) : Int) = 0 from rfl, show ((whyOf none : Nat) : Int) = 0 from rfl]
              go_wp2_with (first
                | (refine load_mid_want rfl 32 (.tmp 6) rfl G 0 rfl M _ RG.out Tryd.underlying32 rfl IM.out ?_)
                | (refine wpList_store_row rfl 32 (.tmp 2) (.tmp 159) rfl w.heap.size M.toArray rfl rfl 32 _ HQf.out.z IM'.out (by simp [LM.out]) (by simpa using OM.out) ?_))
              have z := HQf.out.z.setRow M.toArray
              refine bodyPost_ret (results_cell_tmp2 rfl rfl (load_req z LM.out)) rfl ⟨.slice Ac nc cc, .slice none 0 0, ?_, ?_, ?_, ?_⟩
              · rw [HD2.out, ← EM.out]
                rfl
              · rw [HD2.out]
                exact OwnC.mono (World.ownsRow.kept HQf.out.c (grown_setRow _ _ _) (.inr (own_blk_ne HQf.out.c HQf.out.z (by decide)))) (by have := HQf.out.wg; omega)
              · rw [HD2.out]
                exact OwnB.mono (World.ownsRow.kept HQf.out.l (grown_setRow _ _ _) (.inr (own_blk_ne HQf.out.l HQf.out.z (by decide)))) (by have := HQf.out.wg; omega)
              · exact below_setRow HQf.out.b (Nat.le_refl _) _
            | some x =>
              obtain ⟨xa, xy⟩ := x
              rw [hend] at hd
              dsimp only at hd
              have hx := HWHY.out (xa, xy) (by rw [hd])
              dsimp only at hx
              have hx' : ¬ (xy : Int) = 0 := by omega
              have HZ := Lib.hid hd
              clear hd hend be HGD hx
              rw [show atOf (some (xa, xy)) = xa from rfl, show whyOf (some (xa, xy)) = xy from rfl]
              go_wp2_with (first
                | (refine wpList_read rfl ⟨.agg zeroReqv.toArray, run_built 32 _ rfl _ _ built_zeroR (by simp [Act.eval]), ?_⟩)
                | (refine wpList_store_row rfl 32 (.tmp 2) (.tmp 156) rfl w.heap.size zeroReqv.toArray rfl rfl 32 _ HQf.out.z zeroReqv_info rfl zeroReqv_one ?_))
              have z := HQf.out.z.setRow zeroReqv.toArray
              refine bodyPost_ret (results_cell_tmp2 rfl rfl (load_req z rfl)) rfl ⟨.slice none 0 0, .slice none 0 0, ?_, ?_, ?_, ?_⟩
              · rw [HZ.out]
                rfl
              · rw [HZ.out]
                exact OwnC.nil _ _
              · rw [HZ.out]
                exact OwnB.nil _ _
              · exact below_setRow HQf.out.b (Nat.le_refl _) _
          · have ktr : treesB 5 = true := by decide
            have RN0 := fun w h => rreader_number g bs s7 1 w h HB.out
            have bd0 := rNum_lt bs s7 1 HB.out
            have es0 : sizeN 1 = 1 := rfl
            rw [es0] at RN0
            obtain ⟨⟨u0, m0⟩, hm0⟩ : ∃ x, rNum bs s7 1 = x := ⟨_, rfl⟩
            simp only [hm0] at RN0 bd0
            have lm0 : m0 < 256 := Nat.lt_of_lt_of_eq bd0 (by decide)
            have nw0 : IntKind.i64.wrap (m0 : Int) = m0 := IntWalk.i64_in _ (by omega)
            have HRN0 := Lib.hid RN0
            have HM0 := Lib.hid hm0
            clear RN0 bd0 es0 hm0
            go_wp2_with ((with_reducible refine (rq_trees _ _).mono ?_); (rintro _ _ ⟨rfl, rfl⟩))
            refine (HRN0.out _ HQc.out.rd).mono ?_
            rintro e v0 ⟨rfl, hb0, gb0⟩
            have HQn := Lib.hid (HQc.out.num hb0 gb0)
            obtain ⟨vx0, hv0⟩ := fld_at _ _ _ HQn.out.fine.tag (1, 1, 35) (by simp [IsFld]) (by decide)
            have cx0 := HQn.out.q.cell 35
            rw [List.getElem?_toArray, hv0] at cx0
            have fx0 := HQn.out.q.frozen 35
            have HQp := Lib.hid (HQn.out.put (1, 1, 35) (by simp [IsFld]) (by decide) m0)
            clear hb0 gb0 HQc
            have HQc : Hid (RQ w (v0.setCell ⟨G, 35, none⟩ (.int .i64 (m0 : Int))) g G bs u0 _ _ _) := HQp.out
            have co0 := HQc.out.c0
            clear HQn HQp
            have RN1 := fun w h => rreader_number g bs u0 8 w h HB.out
            have bd1 := rNum_lt bs u0 8 HB.out
            have es1 : sizeN 8 = 8 := rfl
            rw [es1] at RN1
            obtain ⟨⟨u1, m1⟩, hm1⟩ : ∃ x, rNum bs u0 8 = x := ⟨_, rfl⟩
            simp only [hm1] at RN1 bd1
            have lm1 : m1 < 18446744073709551616 := Nat.lt_of_lt_of_eq bd1 (by decide)
            have nw1 : (0 : Nat) = 0 := rfl
            have HRN1 := Lib.hid RN1
            have HM1 := Lib.hid hm1
            clear RN1 bd1 es1 hm1
            go_wp2_with ((with_reducible refine (rq_trees _ _).mono ?_); (rintro _ _ ⟨rfl, rfl⟩))
            refine (HRN1.out _ HQc.out.rd).mono ?_
            rintro e v1 ⟨rfl, hb1, gb1⟩
            have HQn := Lib.hid (HQc.out.num hb1 gb1)
            obtain ⟨vx1, hv1⟩ := fld_at _ _ _ HQn.out.fine.tag (8, 3, 41) (by simp [IsFld]) (by decide)
            have cx1 := HQn.out.q.cell 41
            rw [List.getElem?_toArray, hv1] at cx1
            have fx1 := HQn.out.q.frozen 41
            have HQp := Lib.hid (HQn.out.put (8, 3, 41) (by simp [IsFld]) (by decide) m1)
            clear hb1 gb1 HQc
            have HQc : Hid (RQ w (v1.setCell ⟨G, 41, none⟩ (.int .u64 (m1 : Int))) g G bs u1 _ _ _) := HQp.out
            have co1 := HQc.out.c0
            clear HQn HQp
            have RN2 := fun w h => rreader_number g bs u1 8 w h HB.out
            have bd2 := rNum_lt bs u1 8 HB.out
            have es2 : sizeN 8 = 8 := rfl
            rw [es2] at RN2
            obtain ⟨⟨u2, m2⟩, hm2⟩ : ∃ x, rNum bs u1 8 = x := ⟨_, rfl⟩
            simp only [hm2] at RN2 bd2
            have lm2 : m2 < 18446744073709551616 := Nat.lt_of_lt_of_eq bd2 (by decide)
            have nw2 : (0 : Nat) = 0 := rfl
            have HRN2 := Lib.hid RN2
            have HM2 := Lib.hid hm2
            clear RN2 bd2 es2 hm2
            go_wp2_with ((with_reducible refine (rq_trees _ _).mono ?_); (rintro _ _ ⟨rfl, rfl⟩))
            refine (HRN2.out _ HQc.out.rd).mono ?_
            rintro e v2 ⟨rfl, hb2, gb2⟩
            have HQn := Lib.hid (HQc.out.num hb2 gb2)
            obtain ⟨vx2, hv2⟩ := fld_at _ _ _ HQn.out.fine.tag (8, 3, 42) (by simp [IsFld]) (by decide)
            have cx2 := HQn.out.q.cell 42
            rw [List.getElem?_toArray, hv2] at cx2
            have fx2 := HQn.out.q.frozen 42
            have HQp := Lib.hid (HQn.out.put (8, 3, 42) (by simp [IsFld]) (by decide) m2)
            clear hb2 gb2 HQc
            have HQc : Hid (RQ w (v2.setCell ⟨G, 42, none⟩ (.int .u64 (m2 : Int))) g G bs u2 _ _ _) := HQp.out
            have co2 := HQc.out.c0
            clear HQn HQp
            have HGD := Lib.hid (reqDec_good bs s7 5 [(1, 1, 35), (8, 3, 41), (8, 3, 42)] T u2 _ HM.out (by decide) HTT.out (by simp only [reqGo, HM0.out, HM1.out, HM2.out]; rfl))
            go_wp2_with ((with_reducible refine (rq_trees _ _).mono ?_); (rintro _ _ ⟨rfl, rfl⟩))
            refine (rreader_end g bs _ _ HQc.out.rd).mono ?_
            rintro e we ⟨rfl, be⟩
            have HQf := Lib.hid (HQc.out.below be)
            have hd := HGD.out
            cases hend : rEnd bs u2 with
            | none =>
              rw [hend] at hd
              dsimp only at hd
              have HD2 := Lib.hid hd
              obtain ⟨M, hM, lM, oM, bM⟩ := HQf.out.cells rfl rfl
              have RG := Lib.hid (rangeAt_blk bM 0 M (fun j u h => by simpa using h))
              have IM := Lib.hid (show (Tryd.prog.info? 32).map (·.size) = some M.length by rw [lM]; exact Tryd.req_info)
              have IM' := Lib.hid (show (Tryd.prog.info? 32).map (·.size) = some M.toArray.size by rw [List.size_toArray, lM]; exact Tryd.req_info)
              have LM := Lib.hid lM
              have OM := Lib.hid oM
              have EM := Lib.hid hM
              clear lM oM hM bM hd be hend HGD
              rw [show ((atOf none : Nat) : Int) = 0 from rfl, show ((whyOf none : Nat) : Int) = 0 from rfl]
              go_wp2_with (first
                | (refine load_mid_want rfl 32 (.tmp 6) rfl G 0 rfl M _ RG.out Tryd.underlying32 rfl IM.out ?_)
                | (refine wpList_store_row rfl 32 (.tmp 2) (.tmp 159) rfl w.heap.size M.toArray rfl rfl 32 _ HQf.out.z IM'.out (by simp [LM.out]) (by simpa using OM.out) ?_))
              have z := HQf.out.z.setRow M.toArray
              refine bodyPost_ret (results_cell_tmp2 rfl rfl (load_req z LM.out)) rfl ⟨.slice Ac nc cc, .slice none 0 0, ?_, ?_, ?_, ?_⟩
              · rw [HD2.out, ← EM.out]
                rfl
              · rw [HD2.out]
                exact OwnC.mono (World.ownsRow.kept HQf.out.c (grown_setRow _ _ _) (.inr (own_blk_ne HQf.out.c HQf.out.z (by decide)))) (by have := HQf.out.wg; omega)
              · rw [HD2.out]
                exact OwnB.mono (World.ownsRow.kept HQf.out.l (grown_setRow _ _ _) (.inr (own_blk_ne HQf.out.l HQf.out.z (by decide)))) (by have := HQf.out.wg; omega)
              · exact below_setRow HQf.out.b (Nat.le_refl _) _
            | some x =>
              obtain ⟨xa, xy⟩ := x
              rw [hend] at hd
              dsimp only at hd
              have hx := HWHY.out (xa, xy) (by rw [hd])
              dsimp only at hx
              have hx' : ¬ (xy : Int) = 0 := by omega
              have HZ := Lib.hid hd
              clear hd hend be HGD hx
              rw [show atOf (some (xa, xy)) = xa from rfl, show whyOf (some (xa, xy)) = xy from rfl]
              go_wp2_with (first
                | (refine wpList_read rfl ⟨.agg zeroReqv.toArray, run_built 32 _ rfl _ _ built_zeroR (by simp [Act.eval]), ?_⟩)
                | (refine wpList_store_row rfl 32 (.tmp 2) (.tmp 156) rfl w.heap.size zeroReqv.toArray rfl rfl 32 _ HQf.out.z zeroReqv_info rfl zeroReqv_one ?_))
              have z := HQf.out.z.setRow zeroReqv.toArray
              refine bodyPost_ret (results_cell_tmp2 rfl rfl (load_req z rfl)) rfl ⟨.slice none 0 0, .slice none 0 0, ?_, ?_, ?_, ?_⟩
              · rw [HZ.out]
                rfl
              · rw [HZ.out]
                exact OwnC.nil _ _
              · rw [HZ.out]
                exact OwnB.nil _ _
              · exact below_setRow HQf.out.b (Nat.le_refl _) _
          · have ktr : treesB 6 = true := by decide
            have RN0 := fun w h => rreader_number g bs s7 1 w h HB.out
            have bd0 := rNum_lt bs s7 1 HB.out
            have es0 : sizeN 1 = 1 := rfl
            rw [es0] at RN0
            obtain ⟨⟨u0, m0⟩, hm0⟩ : ∃ x, rNum bs s7 1 = x := ⟨_, rfl⟩
            simp only [hm0] at RN0 bd0
            have lm0 : m0 < 256 := Nat.lt_of_lt_of_eq bd0 (by decide)
            have nw0 : IntKind.i64.wrap (m0 : Int) = m0 := IntWalk.i64_in _ (by omega)
            have HRN0 := Lib.hid RN0
            have HM0 := Lib.hid hm0
            clear RN0 bd0 es0 hm0
            go_wp2_with ((with_reducible refine (rq_trees _ _).mono ?_); (rintro _ _ ⟨rfl, rfl⟩))
            refine (HRN0.out _ HQc.out.rd).mono ?_
            rintro e v0 ⟨rfl, hb0, gb0⟩
            have HQn := Lib.hid (HQc.out.num hb0 gb0)
            obtain ⟨vx0, hv0⟩ := fld_at _ _ _ HQn.out.fine.tag (1, 1, 35) (by simp [IsFld]) (by decide)
            have cx0 := HQn.out.q.cell 35
            rw [List.getElem?_toArray, hv0] at cx0
            have fx0 := HQn.out.q.frozen 35
            have HQp := Lib.hid (HQn.out.put (1, 1, 35) (by simp [IsFld]) (by decide) m0)
            clear hb0 gb0 HQc
            have HQc : Hid (RQ w (v0.setCell ⟨G, 35, none⟩ (.int .i64 (m0 : Int))) g G bs u0 _ _ _) := HQp.out
            have co0 := HQc.out.c0
            clear HQn HQp
            have RN1 := fun w h => rreader_number g bs u0 1 w h HB.out
            have bd1 := rNum_lt bs u0 1 HB.out
            have es1 : sizeN 1 = 1 := rfl
            rw [es1] at RN1
            obtain ⟨⟨u1, m1⟩, hm1⟩ : ∃ x, rNum bs u0 1 = x := ⟨_, rfl⟩
            simp only [hm1] at RN1 bd1
            have lm1 : m1 < 256 := Nat.lt_of_lt_of_eq bd1 (by decide)
            have nw1 : IntKind.i64.wrap (m1 : Int) = m1 := IntWalk.i64_in _ (by omega)
            have HRN1 := Lib.hid RN1
            have HM1 := Lib.hid hm1
            clear RN1 bd1 es1 hm1
            go_wp2_with ((with_reducible refine (rq_trees _ _).mono ?_); (rintro _ _ ⟨rfl, rfl⟩))
            refine (HRN1.out _ HQc.out.rd).mono ?_
            rintro e v1 ⟨rfl, hb1, gb1⟩
            have HQn := Lib.hid (HQc.out.num hb1 gb1)
            obtain ⟨vx1, hv1⟩ := fld_at _ _ _ HQn.out.fine.tag (1, 1, 36) (by simp [IsFld]) (by decide)
            have cx1 := HQn.out.q.cell 36
            rw [List.getElem?_toArray, hv1] at cx1
            have fx1 := HQn.out.q.frozen 36
            have HQp := Lib.hid (HQn.out.put (1, 1, 36) (by simp [IsFld]) (by decide) m1)
            clear hb1 gb1 HQc
            have HQc : Hid (RQ w (v1.setCell ⟨G, 36, none⟩ (.int .i64 (m1 : Int))) g G bs u1 _ _ _) := HQp.out
            have co1 := HQc.out.c0
            clear HQn HQp
            have RN2 := fun w h => rreader_number g bs u1 1 w h HB.out
            have bd2 := rNum_lt bs u1 1 HB.out
            have es2 : sizeN 1 = 1 := rfl
            rw [es2] at RN2
            obtain ⟨⟨u2, m2⟩, hm2⟩ : ∃ x, rNum bs u1 1 = x := ⟨_, rfl⟩
            simp only [hm2] at RN2 bd2
            have lm2 : m2 < 256 := Nat.lt_of_lt_of_eq bd2 (by decide)
            have nw2 : IntKind.i64.wrap (m2 : Int) = m2 := IntWalk.i64_in _ (by omega)
            have HRN2 := Lib.hid RN2
            have HM2 := Lib.hid hm2
            clear RN2 bd2 es2 hm2
            go_wp2_with ((with_reducible refine (rq_trees _ _).mono ?_); (rintro _ _ ⟨rfl, rfl⟩))
            refine (HRN2.out _ HQc.out.rd).mono ?_
            rintro e v2 ⟨rfl, hb2, gb2⟩
            have HQn := Lib.hid (HQc.out.num hb2 gb2)
            obtain ⟨vx2, hv2⟩ := fld_at _ _ _ HQn.out.fine.tag (1, 1, 39) (by simp [IsFld]) (by decide)
            have cx2 := HQn.out.q.cell 39
            rw [List.getElem?_toArray, hv2] at cx2
            have fx2 := HQn.out.q.frozen 39
            have HQp := Lib.hid (HQn.out.put (1, 1, 39) (by simp [IsFld]) (by decide) m2)
            clear hb2 gb2 HQc
            have HQc : Hid (RQ w (v2.setCell ⟨G, 39, none⟩ (.int .i64 (m2 : Int))) g G bs u2 _ _ _) := HQp.out
            have co2 := HQc.out.c0
            clear HQn HQp
            have HGD := Lib.hid (reqDec_good bs s7 6 [(1, 1, 35), (1, 1, 36), (1, 1, 39)] T u2 _ HM.out (by decide) HTT.out (by simp only [reqGo, HM0.out, HM1.out, HM2.out]; rfl))
            go_wp2_with ((with_reducible refine (rq_trees _ _).mono ?_); (rintro _ _ ⟨rfl, rfl⟩))
            refine (rreader_end g bs _ _ HQc.out.rd).mono ?_
            rintro e we ⟨rfl, be⟩
            have HQf := Lib.hid (HQc.out.below be)
            have hd := HGD.out
            cases hend : rEnd bs u2 with
            | none =>
              rw [hend] at hd
              dsimp only at hd
              have HD2 := Lib.hid hd
              obtain ⟨M, hM, lM, oM, bM⟩ := HQf.out.cells rfl rfl
              have RG := Lib.hid (rangeAt_blk bM 0 M (fun j u h => by simpa using h))
              have IM := Lib.hid (show (Tryd.prog.info? 32).map (·.size) = some M.length by rw [lM]; exact Tryd.req_info)
              have IM' := Lib.hid (show (Tryd.prog.info? 32).map (·.size) = some M.toArray.size by rw [List.size_toArray, lM]; exact Tryd.req_info)
              have LM := Lib.hid lM
              have OM := Lib.hid oM
              have EM := Lib.hid hM
              clear lM oM hM bM hd be hend HGD
              rw [show ((atOf none : Nat) : Int) = 0 from rfl, show ((whyOf none : Nat) : Int) = 0 from rfl]
              go_wp2_with (first
                | (refine load_mid_want rfl 32 (.tmp 6) rfl G 0 rfl M _ RG.out Tryd.underlying32 rfl IM.out ?_)
                | (refine wpList_store_row rfl 32 (.tmp 2) (.tmp 159) rfl w.heap.size M.toArray rfl rfl 32 _ HQf.out.z IM'.out (by simp [LM.out]) (by simpa using OM.out) ?_))
              have z := HQf.out.z.setRow M.toArray
              refine bodyPost_ret (results_cell_tmp2 rfl rfl (load_req z LM.out)) rfl ⟨.slice Ac nc cc, .slice none 0 0, ?_, ?_, ?_, ?_⟩
              · rw [HD2.out, ← EM.out]
                rfl
              · rw [HD2.out]
                exact OwnC.mono (World.ownsRow.kept HQf.out.c (grown_setRow _ _ _) (.inr (own_blk_ne HQf.out.c HQf.out.z (by decide)))) (by have := HQf.out.wg; omega)
              · rw [HD2.out]
                exact OwnB.mono (World.ownsRow.kept HQf.out.l (grown_setRow _ _ _) (.inr (own_blk_ne HQf.out.l HQf.out.z (by decide)))) (by have := HQf.out.wg; omega)
              · exact below_setRow HQf.out.b (Nat.le_refl _) _
            | some x =>
              obtain ⟨xa, xy⟩ := x
              rw [hend] at hd
              dsimp only at hd
              have hx := HWHY.out (xa, xy) (by rw [hd])
              dsimp only at hx
              have hx' : ¬ (xy : Int) = 0 := by omega
              have HZ := Lib.hid hd
              clear hd hend be HGD hx
              rw [show atOf (some (xa, xy)) = xa from rfl, show whyOf (some (xa, xy)) = xy from rfl]
              go_wp2_with (first
                | (refine wpList_read rfl ⟨.agg zeroReqv.toArray, run_built 32 _ rfl _ _ built_zeroR (by simp [Act.eval]), ?_⟩)
                | (refine wpList_store_row rfl 32 (.tmp 2) (.tmp 156) rfl w.heap.size zeroReqv.toArray rfl rfl 32 _ HQf.out.z zeroReqv_info rfl zeroReqv_one ?_))
              have z := HQf.out.z.setRow zeroReqv.toArray
              refine bodyPost_ret (results_cell_tmp2 rfl rfl (load_req z rfl)) rfl ⟨.slice none 0 0, .slice none 0 0, ?_, ?_, ?_, ?_⟩
              · rw [HZ.out]
                rfl
              · rw [HZ.out]
                exact OwnC.nil _ _
              · rw [HZ.out]
                exact OwnB.nil _ _
              · exact below_setRow HQf.out.b (Nat.le_refl _) _
          · have ktr : treesB 7 = true := by decide
            have RN0 := fun w h => rreader_number g bs s7 1 w h HB.out
            have bd0 := rNum_lt bs s7 1 HB.out
            have es0 : sizeN 1 = 1 := rfl
            rw [es0] at RN0
            obtain ⟨⟨u0, m0⟩, hm0⟩ : ∃ x, rNum bs s7 1 = x := ⟨_, rfl⟩
            simp only [hm0] at RN0 bd0
            have lm0 : m0 < 256 := Nat.lt_of_lt_of_eq bd0 (by decide)
            have nw0 : IntKind.i64.wrap (m0 : Int) = m0 := IntWalk.i64_in _ (by omega)
            have HRN0 := Lib.hid RN0
            have HM0 := Lib.hid hm0
            clear RN0 bd0 es0 hm0
            go_wp2_with ((with_reducible refine (rq_trees _ _).mono ?_); (rintro _ _ ⟨rfl, rfl⟩))
            refine (HRN0.out _ HQc.out.rd).mono ?_
            rintro e v0 ⟨rfl, hb0, gb0⟩
            have HQn := Lib.hid (HQc.out.num hb0 gb0)
            obtain ⟨vx0, hv0⟩ := fld_at _ _ _ HQn.out.fine.tag (1, 1, 35) (by simp [IsFld]) (by decide)
            have cx0 := HQn.out.q.cell 35
            rw [List.getElem?_toArray, hv0] at cx0
            have fx0 := HQn.out.q.frozen 35
            have HQp := Lib.hid (HQn.out.put (1, 1, 35) (by simp [IsFld]) (by decide) m0)
            clear hb0 gb0 HQc
            have HQc : Hid (RQ w (v0.setCell ⟨G, 35, none⟩ (.int .i64 (m0 : Int))) g G bs u0 _ _ _) := HQp.out
            have co0 := HQc.out.c0
            clear HQn HQp
            have RN1 := fun w h => rreader_number g bs u0 1 w h HB.out
            have bd1 := rNum_lt bs u0 1 HB.out
            have es1 : sizeN 1 = 1 := rfl
            rw [es1] at RN1
            obtain ⟨⟨u1, m1⟩, hm1⟩ : ∃ x, rNum bs u0 1 = x := ⟨_, rfl⟩
            simp only [hm1] at RN1 bd1
            have lm1 : m1 < 256 := Nat.lt_of_lt_of_eq bd1 (by decide)
            have nw1 : IntKind.i64.wrap (m1 : Int) = m1 := IntWalk.i64_in _ (by omega)
            have HRN1 := Lib.hid RN1
            have HM1 := Lib.hid hm1
            clear RN1 bd1 es1 hm1
            go_wp2_with ((with_reducible refine (rq_trees _ _).mono ?_); (rintro _ _ ⟨rfl, rfl⟩))
            refine (HRN1.out _ HQc.out.rd).mono ?_
            rintro e v1 ⟨rfl, hb1, gb1⟩
            have HQn := Lib.hid (HQc.out.num hb1 gb1)
            obtain ⟨vx1, hv1⟩ := fld_at _ _ _ HQn.out.fine.tag (1, 1, 38) (by simp [IsFld]) (by decide)
            have cx1 := HQn.out.q.cell 38
            rw [List.getElem?_toArray, hv1] at cx1
            have fx1 := HQn.out.q.frozen 38
            have HQp := Lib.hid (HQn.out.put (1, 1, 38) (by simp [IsFld]) (by decide) m1)
            clear hb1 gb1 HQc
            have HQc : Hid (RQ w (v1.setCell ⟨G, 38, none⟩ (.int .i64 (m1 : Int))) g G bs u1 _ _ _) := HQp.out
            have co1 := HQc.out.c0
            clear HQn HQp
            have HGD := Lib.hid (reqDec_good bs s7 7 [(1, 1, 35), (1, 1, 38)] T u1 _ HM.out (by decide) HTT.out (by simp only [reqGo, HM0.out, HM1.out]; rfl))
            go_wp2_with ((with_reducible refine (rq_trees _ _).mono ?_); (rintro _ _ ⟨rfl, rfl⟩))
            refine (rreader_end g bs _ _ HQc.out.rd).mono ?_
            rintro e we ⟨rfl, be⟩
            have HQf := Lib.hid (HQc.out.below be)
            have hd := HGD.out
            cases hend : rEnd bs u1 with
            | none =>
              rw [hend] at hd
              dsimp only at hd
              have HD2 := Lib.hid hd
              obtain ⟨M, hM, lM, oM, bM⟩ := HQf.out.cells rfl rfl
              have RG := Lib.hid (rangeAt_blk bM 0 M (fun j u h => by simpa using h))
              have IM := Lib.hid (show (Tryd.prog.info? 32).map (·.size) = some M.length by rw [lM]; exact Tryd.req_info)
              have IM' := Lib.hid (show (Tryd.prog.info? 32).map (·.size) = some M.toArray.size by rw [List.size_toArray, lM]; exact Tryd.req_info)
              have LM := Lib.hid lM
              have OM := Lib.hid oM
              have EM := Lib.hid hM
              clear lM oM hM bM hd be hend HGD
              rw [show ((atOf none : Nat) : Int) = 0 from rfl, show ((whyOf none : Nat) : Int) = 0 from rfl]
              go_wp2_with (first
                | (refine load_mid_want rfl 32 (.tmp 6) rfl G 0 rfl M _ RG.out Tryd.underlying32 rfl IM.out ?_)
                | (refine wpList_store_row rfl 32 (.tmp 2) (.tmp 159) rfl w.heap.size M.toArray rfl rfl 32 _ HQf.out.z IM'.out (by simp [LM.out]) (by simpa using OM.out) ?_))
              have z := HQf.out.z.setRow M.toArray
              refine bodyPost_ret (results_cell_tmp2 rfl rfl (load_req z LM.out)) rfl ⟨.slice Ac nc cc, .slice none 0 0, ?_, ?_, ?_, ?_⟩
              · rw [HD2.out, ← EM.out]
                rfl
              · rw [HD2.out]
                exact OwnC.mono (World.ownsRow.kept HQf.out.c (grown_setRow _ _ _) (.inr (own_blk_ne HQf.out.c HQf.out.z (by decide)))) (by have := HQf.out.wg; omega)
              · rw [HD2.out]
                exact OwnB.mono (World.ownsRow.kept HQf.out.l (grown_setRow _ _ _) (.inr (own_blk_ne HQf.out.l HQf.out.z (by decide)))) (by have := HQf.out.wg; omega)
              · exact below_setRow HQf.out.b (Nat.le_refl _) _
            | some x =>
              obtain ⟨xa, xy⟩ := x
              rw [hend] at hd
              dsimp only at hd
              have hx := HWHY.out (xa, xy) (by rw [hd])
              dsimp only at hx
              have hx' : ¬ (xy : Int) = 0 := by omega
              have HZ := Lib.hid hd
              clear hd hend be HGD hx
              rw [show atOf (some (xa, xy)) = xa from rfl, show whyOf (some (xa, xy)) = xy from rfl]
              go_wp2_with (first
                | (refine wpList_read rfl ⟨.agg zeroReqv.toArray, run_built 32 _ rfl _ _ built_zeroR (by simp [Act.eval]), ?_⟩)
                | (refine wpList_store_row rfl 32 (.tmp 2) (.tmp 156) rfl w.heap.size zeroReqv.toArray rfl rfl 32 _ HQf.out.z zeroReqv_info rfl zeroReqv_one ?_))
              have z := HQf.out.z.setRow zeroReqv.toArray
              refine bodyPost_ret (results_cell_tmp2 rfl rfl (load_req z rfl)) rfl ⟨.slice none 0 0, .slice none 0 0, ?_, ?_, ?_, ?_⟩
              · rw [HZ.out]
                rfl
              · rw [HZ.out]
                exact OwnC.nil _ _
              · rw [HZ.out]
                exact OwnB.nil _ _
              · exact below_setRow HQf.out.b (Nat.le_refl _) _
          · have ktr : treesB 8 = true := by decide
            have RN0 := fun w h => rreader_number g bs s7 1 w h HB.out
            have bd0 := rNum_lt bs s7 1 HB.out
            have es0 : sizeN 1 = 1 := rfl
            rw [es0] at RN0
            obtain ⟨⟨u0, m0⟩, hm0⟩ : ∃ x, rNum bs s7 1 = x := ⟨_, rfl⟩
            simp only [hm0] at RN0 bd0
            have lm0 : m0 < 256 := Nat.lt_of_lt_of_eq bd0 (by decide)
            have nw0 : IntKind.i64.wrap (m0 : Int) = m0 := IntWalk.i64_in _ (by omega)
            have HRN0 := Lib.hid RN0
            have HM0 := Lib.hid hm0
            clear RN0 bd0 es0 hm0
            go_wp2_with ((with_reducible refine (rq_trees _ _).mono ?_); (rintro _ _ ⟨rfl, rfl⟩))
            refine (HRN0.out _ HQc.out.rd).mono ?_
            rintro e v0 ⟨rfl, hb0, gb0⟩
            have HQn := Lib.hid (HQc.out.num hb0 gb0)
            obtain ⟨vx0, hv0⟩ := fld_at _ _ _ HQn.out.fine.tag (1, 1, 35) (by simp [IsFld]) (by decide)
            have cx0 := HQn.out.q.cell 35
            rw [List.getElem?_toArray, hv0] at cx0
            have fx0 := HQn.out.q.frozen 35
            have HQp := Lib.hid (HQn.out.put (1, 1, 35) (by simp [IsFld]) (by decide) m0)
            clear hb0 gb0 HQc
            have HQc : Hid (RQ w (v0.setCell ⟨G, 35, none⟩ (.int .i64 (m0 : Int))) g G bs u0 _ _ _) := HQp.out
            have co0 := HQc.out.c0
            clear HQn HQp
            have RN1 := fun w h => rreader_number g bs u0 1 w h HB.out
            have bd1 := rNum_lt bs u0 1 HB.out
            have es1 : sizeN 1 = 1 := rfl
            rw [es1] at RN1
            obtain ⟨⟨u1, m1⟩, hm1⟩ : ∃ x, rNum bs u0 1 = x := ⟨_, rfl⟩
            simp only [hm1] at RN1 bd1
            have lm1 : m1 < 256 := Nat.lt_of_lt_of_eq bd1 (by decide)
            have nw1 : IntKind.i64.wrap (m1 : Int) = m1 := IntWalk.i64_in _ (by omega)
            have HRN1 := Lib.hid RN1
            have HM1 := Lib.hid hm1
            clear RN1 bd1 es1 hm1
            go_wp2_with ((with_reducible refine (rq_trees _ _).mono ?_); (rintro _ _ ⟨rfl, rfl⟩))
            refine (HRN1.out _ HQc.out.rd).mono ?_
            rintro e v1 ⟨rfl, hb1, gb1⟩
            have HQn := Lib.hid (HQc.out.num hb1 gb1)
            obtain ⟨vx1, hv1⟩ := fld_at _ _ _ HQn.out.fine.tag (1, 1, 39) (by simp [IsFld]) (by decide)
            have cx1 := HQn.out.q.cell 39
            rw [List.getElem?_toArray, hv1] at cx1
            have fx1 := HQn.out.q.frozen 39
            have HQp := Lib.hid (HQn.out.put (1, 1, 39) (by simp [IsFld]) (by decide) m1)
            clear hb1 gb1 HQc
            have HQc : Hid (RQ w (v1.setCell ⟨G, 39, none⟩ (.int .i64 (m1 : Int))) g G bs u1 _ _ _) := HQp.out
            have co1 := HQc.out.c0
            clear HQn HQp
            have HGD := Lib.hid (reqDec_good bs s7 8 [(1, 1, 35), (1, 1, 39)] T u1 _ HM.out (by decide) HTT.out (by simp only [reqGo, HM0.out, HM1.out]; rfl))
            go_wp2_with ((with_reducible refine (rq_trees _ _).mono ?_); (rintro _ _ ⟨rfl, rfl⟩))
            refine (rreader_end g bs _ _ HQc.out.rd).mono ?_
            rintro e we ⟨rfl, be⟩
            have HQf := Lib.hid (HQc.out.below be)
            have hd := HGD.out
            cases hend : rEnd bs u1 with
            | none =>
              rw [hend] at hd
              dsimp only at hd
              have HD2 := Lib.hid hd
              obtain ⟨M, hM, lM, oM, bM⟩ := HQf.out.cells rfl rfl
              have RG := Lib.hid (rangeAt_blk bM 0 M (fun j u h => by simpa using h))
              have IM := Lib.hid (show (Tryd.prog.info? 32).map (·.size) = some M.length by rw [lM]; exact Tryd.req_info)
              have IM' := Lib.hid (show (Tryd.prog.info? 32).map (·.size) = some M.toArray.size by rw [List.size_toArray, lM]; exact Tryd.req_info)
              have LM := Lib.hid lM
              have OM := Lib.hid oM
              have EM := Lib.hid hM
              clear lM oM hM bM hd be hend HGD
              rw [show ((atOf none : Nat) : Int) = 0 from rfl, show ((whyOf none : Nat) : Int) = 0 from rfl]
              go_wp2_with (first
                | (refine load_mid_want rfl 32 (.tmp 6) rfl G 0 rfl M _ RG.out Tryd.underlying32 rfl IM.out ?_)
                | (refine wpList_store_row rfl 32 (.tmp 2) (.tmp 159) rfl w.heap.size M.toArray rfl rfl 32 _ HQf.out.z IM'.out (by simp [LM.out]) (by simpa using OM.out) ?_))
              have z := HQf.out.z.setRow M.toArray
              refine bodyPost_ret (results_cell_tmp2 rfl rfl (load_req z LM.out)) rfl ⟨.slice Ac nc cc, .slice none 0 0, ?_, ?_, ?_, ?_⟩
              · rw [HD2.out, ← EM.out]
                rfl
              · rw [HD2.out]
                exact OwnC.mono (World.ownsRow.kept HQf.out.c (grown_setRow _ _ _) (.inr (own_blk_ne HQf.out.c HQf.out.z (by decide)))) (by have := HQf.out.wg; omega)
              · rw [HD2.out]
                exact OwnB.mono (World.ownsRow.kept HQf.out.l (grown_setRow _ _ _) (.inr (own_blk_ne HQf.out.l HQf.out.z (by decide)))) (by have := HQf.out.wg; omega)
              · exact below_setRow HQf.out.b (Nat.le_refl _) _
            | some x =>
              obtain ⟨xa, xy⟩ := x
              rw [hend] at hd
              dsimp only at hd
              have hx := HWHY.out (xa, xy) (by rw [hd])
              dsimp only at hx
              have hx' : ¬ (xy : Int) = 0 := by omega
              have HZ := Lib.hid hd
              clear hd hend be HGD hx
              rw [show atOf (some (xa, xy)) = xa from rfl, show whyOf (some (xa, xy)) = xy from rfl]
              go_wp2_with (first
                | (refine wpList_read rfl ⟨.agg zeroReqv.toArray, run_built 32 _ rfl _ _ built_zeroR (by simp [Act.eval]), ?_⟩)
                | (refine wpList_store_row rfl 32 (.tmp 2) (.tmp 156) rfl w.heap.size zeroReqv.toArray rfl rfl 32 _ HQf.out.z zeroReqv_info rfl zeroReqv_one ?_))
              have z := HQf.out.z.setRow zeroReqv.toArray
              refine bodyPost_ret (results_cell_tmp2 rfl rfl (load_req z rfl)) rfl ⟨.slice none 0 0, .slice none 0 0, ?_, ?_, ?_, ?_⟩
              · rw [HZ.out]
                rfl
              · rw [HZ.out]
                exact OwnC.nil _ _
              · rw [HZ.out]
                exact OwnB.nil _ _
              · exact below_setRow HQf.out.b (Nat.le_refl _) _
          · have ktr : treesB 9 = true := by decide
            have RN0 := fun w h => rreader_number g bs s7 1 w h HB.out
            have bd0 := rNum_lt bs s7 1 HB.out
            have es0 : sizeN 1 = 1 := rfl
            rw [es0] at RN0
            obtain ⟨⟨u0, m0⟩, hm0⟩ : ∃ x, rNum bs s7 1 = x := ⟨_, rfl⟩
            simp only [hm0] at RN0 bd0
            have lm0 : m0 < 256 := Nat.lt_of_lt_of_eq bd0 (by decide)
            have nw0 : IntKind.i64.wrap (m0 : Int) = m0 := IntWalk.i64_in _ (by omega)
            have HRN0 := Lib.hid RN0
            have HM0 := Lib.hid hm0
            clear RN0 bd0 es0 hm0
            go_wp2_with ((with_reducible refine (rq_trees _ _).mono ?_); (rintro _ _ ⟨rfl, rfl⟩))
            refine (HRN0.out _ HQc.out.rd).mono ?_
            rintro e v0 ⟨rfl, hb0, gb0⟩
            have HQn := Lib.hid (HQc.out.num hb0 gb0)
            obtain ⟨vx0, hv0⟩ := fld_at _ _ _ HQn.out.fine.tag (1, 1, 35) (by simp [IsFld]) (by decide)
            have cx0 := HQn.out.q.cell 35
            rw [List.getElem?_toArray, hv0] at cx0
            have fx0 := HQn.out.q.frozen 35
            have HQp := Lib.hid (HQn.out.put (1, 1, 35) (by simp [IsFld]) (by decide) m0)
            clear hb0 gb0 HQc
            have HQc : Hid (RQ w (v0.setCell ⟨G, 35, none⟩ (.int .i64 (m0 : Int))) g G bs u0 _ _ _) := HQp.out
            have co0 := HQc.out.c0
            clear HQn HQp
            have HGD := Lib.hid (reqDec_good bs s7 9 [(1, 1, 35)] T u0 _ HM.out (by decide) HTT.out (by simp only [reqGo, HM0.out]; rfl))
            go_wp2_with ((with_reducible refine (rq_trees _ _).mono ?_); (rintro _ _ ⟨rfl, rfl⟩))
            refine (rreader_end g bs _ _ HQc.out.rd).mono ?_
            rintro e we ⟨rfl, be⟩
            have HQf := Lib.hid (HQc.out.below be)
            have hd := HGD.out
            cases hend : rEnd bs u0 with
            | none =>
              rw [hend] at hd
              dsimp only at hd
              have HD2 := Lib.hid hd
              obtain ⟨M, hM, lM, oM, bM⟩ := HQf.out.cells rfl rfl
              have RG := Lib.hid (rangeAt_blk bM 0 M (fun j u h => by simpa using h))
              have IM := Lib.hid (show (Tryd.prog.info? 32).map (·.size) = some M.length by rw [lM]; exact Tryd.req_info)
              have IM' := Lib.hid (show (Tryd.prog.info? 32).map (·.size) = some M.toArray.size by rw [List.size_toArray, lM]; exact Tryd.req_info)
              have LM := Lib.hid lM
              have OM := Lib.hid oM
              have EM := Lib.hid hM
              clear lM oM hM bM hd be hend HGD
              rw [show ((atOf none : Nat) : Int) = 0 from rfl, show ((whyOf none : Nat) : Int) = 0 from rfl]
              go_wp2_with (first
                | (refine load_mid_want rfl 32 (.tmp 6) rfl G 0 rfl M _ RG.out Tryd.underlying32 rfl IM.out ?_)
                | (refine wpList_store_row rfl 32 (.tmp 2) (.tmp 159) rfl w.heap.size M.toArray rfl rfl 32 _ HQf.out.z IM'.out (by simp [LM.out]) (by simpa using OM.out) ?_))
              have z := HQf.out.z.setRow M.toArray
              refine bodyPost_ret (results_cell_tmp2 rfl rfl (load_req z LM.out)) rfl ⟨.slice Ac nc cc, .slice none 0 0, ?_, ?_, ?_, ?_⟩
              · rw [HD2.out, ← EM.out]
                rfl
              · rw [HD2.out]
                exact OwnC.mono (World.ownsRow.kept HQf.out.c (grown_setRow _ _ _) (.inr (own_blk_ne HQf.out.c HQf.out.z (by decide)))) (by have := HQf.out.wg; omega)
              · rw [HD2.out]
                exact OwnB.mono (World.ownsRow.kept HQf.out.l (grown_setRow _ _ _) (.inr (own_blk_ne HQf.out.l HQf.out.z (by decide)))) (by have := HQf.out.wg; omega)
              · exact below_setRow HQf.out.b (Nat.le_refl _) _
            | some x =>
              obtain ⟨xa, xy⟩ := x
              rw [hend] at hd
              dsimp only at hd
              have hx := HWHY.out (xa, xy) (by rw [hd])
              dsimp only at hx
              have hx' : ¬ (xy : Int) = 0 := by omega
              have HZ := Lib.hid hd
              clear hd hend be HGD hx
              rw [show atOf (some (xa, xy)) = xa from rfl, show whyOf (some (xa, xy)) = xy from rfl]
              go_wp2_with (first
                | (refine wpList_read rfl ⟨.agg zeroReqv.toArray, run_built 32 _ rfl _ _ built_zeroR (by simp [Act.eval]), ?_⟩)
                | (refine wpList_store_row rfl 32 (.tmp 2) (.tmp 156) rfl w.heap.size zeroReqv.toArray rfl rfl 32 _ HQf.out.z zeroReqv_info rfl zeroReqv_one ?_))
              have z := HQf.out.z.setRow zeroReqv.toArray
              refine bodyPost_ret (results_cell_tmp2 rfl rfl (load_req z rfl)) rfl ⟨.slice none 0 0, .slice none 0 0, ?_, ?_, ?_, ?_⟩
              · rw [HZ.out]
                rfl
              · rw [HZ.out]
                exact OwnC.nil _ _
              · rw [HZ.out]
                exact OwnB.nil _ _
              · exact below_setRow HQf.out.b (Nat.le_refl _) _
          · have ktr : treesB 10 = false := by decide
            have RN0 := fun w h => rreader_number g bs s7 1 w h HB.out
            have bd0 := rNum_lt bs s7 1 HB.out
            have es0 : sizeN 1 = 1 := rfl
            rw [es0] at RN0
            obtain ⟨⟨u0, m0⟩, hm0⟩ : ∃ x, rNum bs s7 1 = x := ⟨_, rfl⟩
            simp only [hm0] at RN0 bd0
            have lm0 : m0 < 256 := Nat.lt_of_lt_of_eq bd0 (by decide)
            have nw0 : IntKind.i64.wrap (m0 : Int) = m0 := IntWalk.i64_in _ (by omega)
            have HRN0 := Lib.hid RN0
            have HM0 := Lib.hid hm0
            clear RN0 bd0 es0 hm0
            go_wp2_with ((with_reducible refine (rq_trees _ _).mono ?_); (rintro _ _ ⟨rfl, rfl⟩))
            refine (HRN0.out _ HQc.out.rd).mono ?_
            rintro e v0 ⟨rfl, hb0, gb0⟩
            have HQn := Lib.hid (HQc.out.num hb0 gb0)
            obtain ⟨vx0, hv0⟩ := fld_at _ _ _ HQn.out.fine.tag (1, 1, 36) (by simp [IsFld]) (by decide)
            have cx0 := HQn.out.q.cell 36
            rw [List.getElem?_toArray, hv0] at cx0
            have fx0 := HQn.out.q.frozen 36
            have HQp := Lib.hid (HQn.out.put (1, 1, 36) (by simp [IsFld]) (by decide) m0)
            clear hb0 gb0 HQc
            have HQc : Hid (RQ w (v0.setCell ⟨G, 36, none⟩ (.int .i64 (m0 : Int))) g G bs u0 _ _ _) := HQp.out
            have co0 := HQc.out.c0
            clear HQn HQp
            have RN1 := fun w h => rreader_number g bs u0 1 w h HB.out
            have bd1 := rNum_lt bs u0 1 HB.out
            have es1 : sizeN 1 = 1 := rfl
            rw [es1] at RN1
            obtain ⟨⟨u1, m1⟩, hm1⟩ : ∃ x, rNum bs u0 1 = x := ⟨_, rfl⟩
            simp only [hm1] at RN1 bd1
            have lm1 : m1 < 256 := Nat.lt_of_lt_of_eq bd1 (by decide)
            have nw1 : IntKind.i64.wrap (m1 : Int) = m1 := IntWalk.i64_in _ (by omega)
            have HRN1 := Lib.hid RN1
            have HM1 := Lib.hid hm1
            clear RN1 bd1 es1 hm1
            go_wp2_with ((with_reducible refine (rq_trees _ _).mono ?_); (rintro _ _ ⟨rfl, rfl⟩))
            refine (HRN1.out _ HQc.out.rd).mono ?_
            rintro e v1 ⟨rfl, hb1, gb1⟩
            have HQn := Lib.hid (HQc.out.num hb1 gb1)
            obtain ⟨vx1, hv1⟩ := fld_at _ _ _ HQn.out.fine.tag (1, 1, 37) (by simp [IsFld]) (by decide)
            have cx1 := HQn.out.q.cell 37
            rw [List.getElem?_toArray, hv1] at cx1
            have fx1 := HQn.out.q.frozen 37
            have HQp := Lib.hid (HQn.out.put (1, 1, 37) (by simp [IsFld]) (by decide) m1)
            clear hb1 gb1 HQc
            have HQc : Hid (RQ w (v1.setCell ⟨G, 37, none⟩ (.int .i64 (m1 : Int))) g G bs u1 _ _ _) := HQp.out
            have co1 := HQc.out.c0
            clear HQn HQp
            have RN2 := fun w h => rreader_number g bs u1 8 w h HB.out
            have bd2 := rNum_lt bs u1 8 HB.out
            have es2 : sizeN 8 = 8 := rfl
            rw [es2] at RN2
            obtain ⟨⟨u2, m2⟩, hm2⟩ : ∃ x, rNum bs u1 8 = x := ⟨_, rfl⟩
            simp only [hm2] at RN2 bd2
            have lm2 : m2 < 18446744073709551616 := Nat.lt_of_lt_of_eq bd2 (by decide)
            have nw2 : (0 : Nat) = 0 := rfl
            have HRN2 := Lib.hid RN2
            have HM2 := Lib.hid hm2
            clear RN2 bd2 es2 hm2
            go_wp2_with ((with_reducible refine (rq_trees _ _).mono ?_); (rintro _ _ ⟨rfl, rfl⟩))
            refine (HRN2.out _ HQc.out.rd).mono ?_
            rintro e v2 ⟨rfl, hb2, gb2⟩
            have HQn := Lib.hid (HQc.out.num hb2 gb2)
            obtain ⟨vx2, hv2⟩ := fld_at _ _ _ HQn.out.fine.tag (8, 3, 46) (by simp [IsFld]) (by decide)
            have cx2 := HQn.out.q.cell 46
            rw [List.getElem?_toArray, hv2] at cx2
            have fx2 := HQn.out.q.frozen 46
            have HQp := Lib.hid (HQn.out.put (8, 3, 46) (by simp [IsFld]) (by decide) m2)
            clear hb2 gb2 HQc
            have HQc : Hid (RQ w (v2.setCell ⟨G, 46, none⟩ (.int .u64 (m2 : Int))) g G bs u2 _ _ _) := HQp.out
            have co2 := HQc.out.c0
            clear HQn HQp
            have HGD := Lib.hid (reqDec_good bs s7 10 [(1, 1, 36), (1, 1, 37), (8, 3, 46)] T u2 _ HM.out (by decide) HTT.out (by simp only [reqGo, HM0.out, HM1.out, HM2.out]; rfl))
            go_wp2_with ((with_reducible refine (rq_trees _ _).mono ?_); (rintro _ _ ⟨rfl, rfl⟩))
            refine (rreader_end g bs _ _ HQc.out.rd).mono ?_
            rintro e we ⟨rfl, be⟩
            have HQf := Lib.hid (HQc.out.below be)
            have hd := HGD.out
            cases hend : rEnd bs u2 with
            | none =>
              rw [hend] at hd
              dsimp only at hd
              have HD2 := Lib.hid hd
              obtain ⟨M, hM, lM, oM, bM⟩ := HQf.out.cells rfl rfl
              have RG := Lib.hid (rangeAt_blk bM 0 M (fun j u h => by simpa using h))
              have IM := Lib.hid (show (Tryd.prog.info? 32).map (·.size) = some M.length by rw [lM]; exact Tryd.req_info)
              have IM' := Lib.hid (show (Tryd.prog.info? 32).map (·.size) = some M.toArray.size by rw [List.size_toArray, lM]; exact Tryd.req_info)
              have LM := Lib.hid lM
              have OM := Lib.hid oM
              have EM := Lib.hid hM
              clear lM oM hM bM hd be hend HGD
              rw [show ((atOf none : Nat) : Int) = 0 from rfl, show ((whyOf none : Nat) : Int) = 0 from rfl]
              go_wp2_with (first
                | (refine load_mid_want rfl 32 (.tmp 6) rfl G 0 rfl M _ RG.out Tryd.underlying32 rfl IM.out ?_)
                | (refine wpList_store_row rfl 32 (.tmp 2) (.tmp 159) rfl w.heap.size M.toArray rfl rfl 32 _ HQf.out.z IM'.out (by simp [LM.out]) (by simpa using OM.out) ?_))
              have z := HQf.out.z.setRow M.toArray
              refine bodyPost_ret (results_cell_tmp2 rfl rfl (load_req z LM.out)) rfl ⟨.slice Ac nc cc, .slice none 0 0, ?_, ?_, ?_, ?_⟩
              · rw [HD2.out, ← EM.out]
                rfl
              · rw [HD2.out]
                exact OwnC.mono (World.ownsRow.kept HQf.out.c (grown_setRow _ _ _) (.inr (own_blk_ne HQf.out.c HQf.out.z (by decide)))) (by have := HQf.out.wg; omega)
              · rw [HD2.out]
                exact OwnB.mono (World.ownsRow.kept HQf.out.l (grown_setRow _ _ _) (.inr (own_blk_ne HQf.out.l HQf.out.z (by decide)))) (by have := HQf.out.wg; omega)
              · exact below_setRow HQf.out.b (Nat.le_refl _) _
            | some x =>
              obtain ⟨xa, xy⟩ := x
              rw [hend] at hd
              dsimp only at hd
              have hx := HWHY.out (xa, xy) (by rw [hd])
              dsimp only at hx
              have hx' : ¬ (xy : Int) = 0 := by omega
              have HZ := Lib.hid hd
              clear hd hend be HGD hx
              rw [show atOf (some (xa, xy)) = xa from rfl, show whyOf (some (xa, xy)) = xy from rfl]
              go_wp2_with (first
                | (refine wpList_read rfl ⟨.agg zeroReqv.toArray, run_built 32 _ rfl _ _ built_zeroR (by simp [Act.eval]), ?_⟩)
                | (refine wpList_store_row rfl 32 (.tmp 2) (.tmp 156) rfl w.heap.size zeroReqv.toArray rfl rfl 32 _ HQf.out.z zeroReqv_info rfl zeroReqv_one ?_))
              have z := HQf.out.z.setRow zeroReqv.toArray
              refine bodyPost_ret (results_cell_tmp2 rfl rfl (load_req z rfl)) rfl ⟨.slice none 0 0, .slice none 0 0, ?_, ?_, ?_, ?_⟩
              · rw [HZ.out]
                rfl
              · rw [HZ.out]
                exact OwnC.nil _ _
              · rw [HZ.out]
                exact OwnB.nil _ _
              · exact below_setRow HQf.out.b (Nat.le_refl _) _
          · have ktr : treesB 11 = false := by decide
            have RN0 := fun w h => rreader_number g bs s7 4 w h HB.out
            have bd0 := rNum_lt bs s7 4 HB.out
            have es0 : sizeN 4 = 4 := rfl
            rw [es0] at RN0
            obtain ⟨⟨u0, m0⟩, hm0⟩ : ∃ x, rNum bs s7 4 = x := ⟨_, rfl⟩
            simp only [hm0] at RN0 bd0
            have lm0 : m0 < 4294967296 := Nat.lt_of_lt_of_eq bd0 (by decide)
            have nw0 : IntKind.u32.wrap (m0 : Int) = m0 := by rw [IntKind.wrap_u32]; omega
            have HRN0 := Lib.hid RN0
            have HM0 := Lib.hid hm0
            clear RN0 bd0 es0 hm0
            go_wp2_with ((with_reducible refine (rq_trees _ _).mono ?_); (rintro _ _ ⟨rfl, rfl⟩))
            refine (HRN0.out _ HQc.out.rd).mono ?_
            rintro e v0 ⟨rfl, hb0, gb0⟩
            have HQn := Lib.hid (HQc.out.num hb0 gb0)
            obtain ⟨vx0, hv0⟩ := fld_at _ _ _ HQn.out.fine.tag (4, 2, 40) (by simp [IsFld]) (by decide)
            have cx0 := HQn.out.q.cell 40
            rw [List.getElem?_toArray, hv0] at cx0
            have fx0 := HQn.out.q.frozen 40
            have HQp := Lib.hid (HQn.out.put (4, 2, 40) (by simp [IsFld]) (by decide) m0)
            clear hb0 gb0 HQc
            have HQc : Hid (RQ w (v0.setCell ⟨G, 40, none⟩ (.int .u32 (m0 : Int))) g G bs u0 _ _ _) := HQp.out
            have co0 := HQc.out.c0
            clear HQn HQp
            have HGD := Lib.hid (reqDec_good bs s7 11 [(4, 2, 40)] T u0 _ HM.out (by decide) HTT.out (by simp only [reqGo, HM0.out]; rfl))
            go_wp2_with ((with_reducible refine (rq_trees _ _).mono ?_); (rintro _ _ ⟨rfl, rfl⟩))
            refine (rreader_end g bs _ _ HQc.out.rd).mono ?_
            rintro e we ⟨rfl, be⟩
            have HQf := Lib.hid (HQc.out.below be)
            have hd := HGD.out
            cases hend : rEnd bs u0 with
            | none =>
              rw [hend] at hd
              dsimp only at hd
              have HD2 := Lib.hid hd
              obtain ⟨M, hM, lM, oM, bM⟩ := HQf.out.cells rfl rfl
              have RG := Lib.hid (rangeAt_blk bM 0 M (fun j u h => by simpa using h))
              have IM := Lib.hid (show (Tryd.prog.info? 32).map (·.size) = some M.length by rw [lM]; exact Tryd.req_info)
              have IM' := Lib.hid (show (Tryd.prog.info? 32).map (·.size) = some M.toArray.size by rw [List.size_toArray, lM]; exact Tryd.req_info)
              have LM := Lib.hid lM
              have OM := Lib.hid oM
              have EM := Lib.hid hM
              clear lM oM hM bM hd be hend HGD
              rw [show ((atOf none : Nat) : Int) = 0 from rfl, show ((whyOf none : Nat) : Int) = 0 from rfl]
              go_wp2_with (first
                | (refine load_mid_want rfl 32 (.tmp 6) rfl G 0 rfl M _ RG.out Tryd.underlying32 rfl IM.out ?_)
                | (refine wpList_store_row rfl 32 (.tmp 2) (.tmp 159) rfl w.heap.size M.toArray rfl rfl 32 _ HQf.out.z IM'.out (by simp [LM.out]) (by simpa using OM.out) ?_))
              have z := HQf.out.z.setRow M.toArray
              refine bodyPost_ret (results_cell_tmp2 rfl rfl (load_req z LM.out)) rfl ⟨.slice Ac nc cc, .slice none 0 0, ?_, ?_, ?_, ?_⟩
              · rw [HD2.out, ← EM.out]
                rfl
              · rw [HD2.out]
                exact OwnC.mono (World.ownsRow.kept HQf.out.c (grown_setRow _ _ _) (.inr (own_blk_ne HQf.out.c HQf.out.z (by decide)))) (by have := HQf.out.wg; omega)
              · rw [HD2.out]
                exact OwnB.mono (World.ownsRow.kept HQf.out.l (grown_setRow _ _ _) (.inr (own_blk_ne HQf.out.l HQf.out.z (by decide)))) (by have := HQf.out.wg; omega)
              · exact below_setRow HQf.out.b (Nat.le_refl _) _
            | some x =>
              obtain ⟨xa, xy⟩ := x
              rw [hend] at hd
              dsimp only at hd
              have hx := HWHY.out (xa, xy) (by rw [hd])
              dsimp only at hx
              have hx' : ¬ (xy : Int) = 0 := by omega
              have HZ := Lib.hid hd
              clear hd hend be HGD hx
              rw [show atOf (some (xa, xy)) = xa from rfl, show whyOf (some (xa, xy)) = xy from rfl]
              go_wp2_with (first
                | (refine wpList_read rfl ⟨.agg zeroReqv.toArray, run_built 32 _ rfl _ _ built_zeroR (by simp [Act.eval]), ?_⟩)
                | (refine wpList_store_row rfl 32 (.tmp 2) (.tmp 156) rfl w.heap.size zeroReqv.toArray rfl rfl 32 _ HQf.out.z zeroReqv_info rfl zeroReqv_one ?_))
              have z := HQf.out.z.setRow zeroReqv.toArray
              refine bodyPost_ret (results_cell_tmp2 rfl rfl (load_req z rfl)) rfl ⟨.slice none 0 0, .slice none 0 0, ?_, ?_, ?_, ?_⟩
              · rw [HZ.out]
                rfl
              · rw [HZ.out]
                exact OwnC.nil _ _
              · rw [HZ.out]
                exact OwnB.nil _ _
              · exact below_setRow HQf.out.b (Nat.le_refl _) _
          · have ktr : treesB 12 = false := by decide
            have RN0 := fun w h => rreader_number g bs s7 1 w h HB.out
            have bd0 := rNum_lt bs s7 1 HB.out
            have es0 : sizeN 1 = 1 := rfl
            rw [es0] at RN0
            obtain ⟨⟨u0, m0⟩, hm0⟩ : ∃ x, rNum bs s7 1 = x := ⟨_, rfl⟩
            simp only [hm0] at RN0 bd0
            have lm0 : m0 < 256 := Nat.lt_of_lt_of_eq bd0 (by decide)
            have nw0 : IntKind.i64.wrap (m0 : Int) = m0 := IntWalk.i64_in _ (by omega)
            have HRN0 := Lib.hid RN0
            have HM0 := Lib.hid hm0
            clear RN0 bd0 es0 hm0
            go_wp2_with ((with_reducible refine (rq_trees _ _).mono ?_); (rintro _ _ ⟨rfl, rfl⟩))
            refine (HRN0.out _ HQc.out.rd).mono ?_
            rintro e v0 ⟨rfl, hb0, gb0⟩
            have HQn := Lib.hid (HQc.out.num hb0 gb0)
            obtain ⟨vx0, hv0⟩ := fld_at _ _ _ HQn.out.fine.tag (1, 1, 36) (by simp [IsFld]) (by decide)
            have cx0 := HQn.out.q.cell 36
            rw [List.getElem?_toArray, hv0] at cx0
            have fx0 := HQn.out.q.frozen 36
            have HQp := Lib.hid (HQn.out.put (1, 1, 36) (by simp [IsFld]) (by decide) m0)
            clear hb0 gb0 HQc
            have HQc : Hid (RQ w (v0.setCell ⟨G, 36, none⟩ (.int .i64 (m0 : Int))) g G bs u0 _ _ _) := HQp.out
            have co0 := HQc.out.c0
            clear HQn HQp
            have RN1 := fun w h => rreader_number g bs u0 4 w h HB.out
            have bd1 := rNum_lt bs u0 4 HB.out
            have es1 : sizeN 4 = 4 := rfl
            rw [es1] at RN1
            obtain ⟨⟨u1, m1⟩, hm1⟩ : ∃ x, rNum bs u0 4 = x := ⟨_, rfl⟩
            simp only [hm1] at RN1 bd1
            have lm1 : m1 < 4294967296 := Nat.lt_of_lt_of_eq bd1 (by decide)
            have nw1 : IntKind.u32.wrap (m1 : Int) = m1 := by rw [IntKind.wrap_u32]; omega
            have HRN1 := Lib.hid RN1
            have HM1 := Lib.hid hm1
            clear RN1 bd1 es1 hm1
            go_wp2_with ((with_reducible refine (rq_trees _ _).mono ?_); (rintro _ _ ⟨rfl, rfl⟩))
            refine (HRN1.out _ HQc.out.rd).mono ?_
            rintro e v1 ⟨rfl, hb1, gb1⟩
            have HQn := Lib.hid (HQc.out.num hb1 gb1)
            obtain ⟨vx1, hv1⟩ := fld_at _ _ _ HQn.out.fine.tag (4, 2, 43) (by simp [IsFld]) (by decide)
            have cx1 := HQn.out.q.cell 43
            rw [List.getElem?_toArray, hv1] at cx1
            have fx1 := HQn.out.q.frozen 43
            have HQp := Lib.hid (HQn.out.put (4, 2, 43) (by simp [IsFld]) (by decide) m1)
            clear hb1 gb1 HQc
            have HQc : Hid (RQ w (v1.setCell ⟨G, 43, none⟩ (.int .u32 (m1 : Int))) g G bs u1 _ _ _) := HQp.out
            have co1 := HQc.out.c0
            clear HQn HQp
            have RN2 := fun w h => rreader_number g bs u1 4 w h HB.out
            have bd2 := rNum_lt bs u1 4 HB.out
            have es2 : sizeN 4 = 4 := rfl
            rw [es2] at RN2
            obtain ⟨⟨u2, m2⟩, hm2⟩ : ∃ x, rNum bs u1 4 = x := ⟨_, rfl⟩
            simp only [hm2] at RN2 bd2
            have lm2 : m2 < 4294967296 := Nat.lt_of_lt_of_eq bd2 (by decide)
            have nw2 : IntKind.u32.wrap (m2 : Int) = m2 := by rw [IntKind.wrap_u32]; omega
            have HRN2 := Lib.hid RN2
            have HM2 := Lib.hid hm2
            clear RN2 bd2 es2 hm2
            go_wp2_with ((with_reducible refine (rq_trees _ _).mono ?_); (rintro _ _ ⟨rfl, rfl⟩))
            refine (HRN2.out _ HQc.out.rd).mono ?_
            rintro e v2 ⟨rfl, hb2, gb2⟩
            have HQn := Lib.hid (HQc.out.num hb2 gb2)
            obtain ⟨vx2, hv2⟩ := fld_at _ _ _ HQn.out.fine.tag (4, 2, 44) (by simp [IsFld]) (by decide)
            have cx2 := HQn.out.q.cell 44
            rw [List.getElem?_toArray, hv2] at cx2
            have fx2 := HQn.out.q.frozen 44
            have HQp := Lib.hid (HQn.out.put (4, 2, 44) (by simp [IsFld]) (by decide) m2)
            clear hb2 gb2 HQc
            have HQc : Hid (RQ w (v2.setCell ⟨G, 44, none⟩ (.int .u32 (m2 : Int))) g G bs u2 _ _ _) := HQp.out
            have co2 := HQc.out.c0
            clear HQn HQp
            have RN3 := fun w h => rreader_number g bs u2 4 w h HB.out
            have bd3 := rNum_lt bs u2 4 HB.out
            have es3 : sizeN 4 = 4 := rfl
            rw [es3] at RN3
            obtain ⟨⟨u3, m3⟩, hm3⟩ : ∃ x, rNum bs u2 4 = x := ⟨_, rfl⟩
            simp only [hm3] at RN3 bd3
            have lm3 : m3 < 4294967296 := Nat.lt_of_lt_of_eq bd3 (by decide)
            have nw3 : IntKind.u32.wrap (m3 : Int) = m3 := by rw [IntKind.wrap_u32]; omega
            have HRN3 := Lib.hid RN3
            have HM3 := Lib.hid hm3
            clear RN3 bd3 es3 hm3
            go_wp2_with ((with_reducible refine (rq_trees _ _).mono ?_); (rintro _ _ ⟨rfl, rfl⟩))
            refine (HRN3.out _ HQc.out.rd).mono ?_
            rintro e v3 ⟨rfl, hb3, gb3⟩
            have HQn := Lib.hid (HQc.out.num hb3 gb3)
            obtain ⟨vx3, hv3⟩ := fld_at _ _ _ HQn.out.fine.tag (4, 2, 45) (by simp [IsFld]) (by decide)
            have cx3 := HQn.out.q.cell 45
            rw [List.getElem?_toArray, hv3] at cx3
            have fx3 := HQn.out.q.frozen 45
            have HQp := Lib.hid (HQn.out.put (4, 2, 45) (by simp [IsFld]) (by decide) m3)
            clear hb3 gb3 HQc
            have HQc : Hid (RQ w (v3.setCell ⟨G, 45, none⟩ (.int .u32 (m3 : Int))) g G bs u3 _ _ _) := HQp.out
            have co3 := HQc.out.c0
            clear HQn HQp
            have HGD := Lib.hid (reqDec_good bs s7 12 [(1, 1, 36), (4, 2, 43), (4, 2, 44), (4, 2, 45)] T u3 _ HM.out (by decide) HTT.out (by simp only [reqGo, HM0.out, HM1.out, HM2.out, HM3.out]; rfl))
            go_wp2_with ((with_reducible refine (rq_trees _ _).mono ?_); (rintro _ _ ⟨rfl, rfl⟩))
            refine (rreader_end g bs _ _ HQc.out.rd).mono ?_
            rintro e we ⟨rfl, be⟩
            have HQf := Lib.hid (HQc.out.below be)
            have hd := HGD.out
            cases hend : rEnd bs u3 with
            | none =>
              rw [hend] at hd
              dsimp only at hd
              have HD2 := Lib.hid hd
              obtain ⟨M, hM, lM, oM, bM⟩ := HQf.out.cells rfl rfl
              have RG := Lib.hid (rangeAt_blk bM 0 M (fun j u h => by simpa using h))
              have IM := Lib.hid (show (Tryd.prog.info? 32).map (·.size) = some M.length by rw [lM]; exact Tryd.req_info)
              have IM' := Lib.hid (show (Tryd.prog.info? 32).map (·.size) = some M.toArray.size by rw [List.size_toArray, lM]; exact Tryd.req_info)
              have LM := Lib.hid lM
              have OM := Lib.hid oM
              have EM := Lib.hid hM
              clear lM oM hM bM hd be hend HGD
              rw [show ((atOf none : Nat) : Int) = 0 from rfl, show ((whyOf none : Nat) : Int) = 0 from rfl]
              go_wp2_with (first
                | (refine load_mid_want rfl 32 (.tmp 6) rfl G 0 rfl M _ RG.out Tryd.underlying32 rfl IM.out ?_)
                | (refine wpList_store_row rfl 32 (.tmp 2) (.tmp 159) rfl w.heap.size M.toArray rfl rfl 32 _ HQf.out.z IM'.out (by simp [LM.out]) (by simpa using OM.out) ?_))
              have z := HQf.out.z.setRow M.toArray
              refine bodyPost_ret (results_cell_tmp2 rfl rfl (load_req z LM.out)) rfl ⟨.slice Ac nc cc, .slice none 0 0, ?_, ?_, ?_, ?_⟩
              · rw [HD2.out, ← EM.out]
                rfl
              · rw [HD2.out]
                exact OwnC.mono (World.ownsRow.kept HQf.out.c (grown_setRow _ _ _) (.inr (own_blk_ne HQf.out.c HQf.out.z (by decide)))) (by have := HQf.out.wg; omega)
              · rw [HD2.out]
                exact OwnB.mono (World.ownsRow.kept HQf.out.l (grown_setRow _ _ _) (.inr (own_blk_ne HQf.out.l HQf.out.z (by decide)))) (by have := HQf.out.wg; omega)
              · exact below_setRow HQf.out.b (Nat.le_refl _) _
            | some x =>
              obtain ⟨xa, xy⟩ := x
              rw [hend] at hd
              dsimp only at hd
              have hx := HWHY.out (xa, xy) (by rw [hd])
              dsimp only at hx
              have hx' : ¬ (xy : Int) = 0 := by omega
              have HZ := Lib.hid hd
              clear hd hend be HGD hx
              rw [show atOf (some (xa, xy)) = xa from rfl, show whyOf (some (xa, xy)) = xy from rfl]
              go_wp2_with (first
                | (refine wpList_read rfl ⟨.agg zeroReqv.toArray, run_built 32 _ rfl _ _ built_zeroR (by simp [Act.eval]), ?_⟩)
                | (refine wpList_store_row rfl 32 (.tmp 2) (.tmp 156) rfl w.heap.size zeroReqv.toArray rfl rfl 32 _ HQf.out.z zeroReqv_info rfl zeroReqv_one ?_))
              have z := HQf.out.z.setRow zeroReqv.toArray
              refine bodyPost_ret (results_cell_tmp2 rfl rfl (load_req z rfl)) rfl ⟨.slice none 0 0, .slice none 0 0, ?_, ?_, ?_, ?_⟩
              · rw [HZ.out]
                rfl
              · rw [HZ.out]
                exact OwnC.nil _ _
              · rw [HZ.out]
                exact OwnB.nil _ _
              · exact below_setRow HQf.out.b (Nat.le_refl _) _
        · have hz := reqDec_bad bs s7 k HM.out h7n (fields_bad k hk)
          have HZ := Lib.hid hz
          have c81 : w8.cell? ⟨g, 1, none⟩ = some (.int .i64 (s7.1 : Int)) := by
            obtain ⟨A', n', c', hgb, -⟩ := HQc.out.rd
            exact (hgb.cell 1).trans rfl
          clear hz h7n k0
          have hkk : k = 0 ∨ 12 < k := by omega
          rcases hkk with rfl | hk12
          · go_wp2_with fail
            obtain ⟨S, HS⟩ : ∃ S : World → Prop, Hid (∀ w', S w' = (w'.cell? ⟨g, 1, none⟩ = some (.int .i64 (s7.1 : Int)))) := ⟨_, fun _ => rfl⟩
            refine wp_region_seq S 8 [(0, false), (1, false), (2, false), (3, false), (4, false), (5, true), (6, false), (7, false)] (by kernel_rfl) rfl (by kernel_rfl) (by kernel_rfl) (by kernel_rfl) (fun _ _ d _ _ h => by cases d <;> exact h) ((HS.out _).mpr c81) ?_
            refine wpSeq_read rfl rfl ⟨.agg zeroReqv.toArray, fun w1 hS => run_built 32 _ rfl _ _ built_zeroR (by simp [Act.eval]), ?_⟩
            try simp only [Act.put, List.setIfInBounds_toArray, List.set_cons_zero, List.set_cons_succ]
            repeat (refine wpSeq_read rfl rfl ⟨?_, fun w1 hS => ?_, ?_⟩; rotate_left; (focus (rw [HS.out] at hS; go_split_ands; go_simp; (try go_bits); try rfl)); simp only [Act.put, List.setIfInBounds_toArray, List.set_cons_zero, List.set_cons_succ])
            refine wpSeq_write rfl rfl ?_
            refine wp_store_row 32 (.tmp 2) (.tmp 57) rfl w.heap.size zeroReqv.toArray rfl rfl 32 _ HQc.out.z zeroReqv_info rfl zeroReqv_one ?_
            have z := HQc.out.z.setRow zeroReqv.toArray
            have hne : g ≠ w.heap.size := by omega
            have c82 : (w8.drew.setRow w.heap.size zeroReqv.toArray).cell? ⟨g, 1, none⟩ = some (.int .i64 (s7.1 : Int)) := by
              obtain ⟨A', n', c', hgb, -⟩ := HQc.out.rd
              exact ((Blk.setRow_far (w := w8.drew) hgb hne zeroReqv.toArray).cell 1).trans rfl
            refine ⟨fun _ => (HS.out _).mpr c82, ?_⟩
            try simp only [Act.put, List.setIfInBounds_toArray, List.set_cons_zero, List.set_cons_succ]
            repeat (refine wpSeq_read rfl rfl ⟨?_, fun w1 hS => ?_, ?_⟩; rotate_left; (focus (rw [HS.out] at hS; go_split_ands; go_simp; (try go_bits); try rfl)); simp only [Act.put, List.setIfInBounds_toArray, List.set_cons_zero, List.set_cons_succ])
            refine wpSeq_nil ?_
            go_wp2_with fail
            refine bodyPost_ret (results_cell_tmp2 rfl rfl (load_req z rfl)) rfl ⟨.slice none 0 0, .slice none 0 0, ?_, ?_, ?_, ?_⟩
            · rw [HZ.out]
              rfl
            · rw [HZ.out]
              exact OwnC.nil _ _
            · rw [HZ.out]
              exact OwnB.nil _ _
            · exact below_setRow HQc.out.b.drew (Nat.le_refl _) _
          · have q1 : ¬ (k : Int) < 1 := by omega
            have q2 : (12 : Int) < k := by omega
            clear hk
            go_wp2_with fail
            obtain ⟨S, HS⟩ : ∃ S : World → Prop, Hid (∀ w', S w' = (w'.cell? ⟨g, 1, none⟩ = some (.int .i64 (s7.1 : Int)))) := ⟨_, fun _ => rfl⟩
            refine wp_region_seq S 8 [(0, false), (1, false), (2, false), (3, false), (4, false), (5, true), (6, false), (7, false)] (by kernel_rfl) rfl (by kernel_rfl) (by kernel_rfl) (by kernel_rfl) (fun _ _ d _ _ h => by cases d <;> exact h) ((HS.out _).mpr c81) ?_
            refine wpSeq_read rfl rfl ⟨.agg zeroReqv.toArray, fun w1 hS => run_built 32 _ rfl _ _ built_zeroR (by simp [Act.eval]), ?_⟩
            try simp only [Act.put, List.setIfInBounds_toArray, List.set_cons_zero, List.set_cons_succ]
            repeat (refine wpSeq_read rfl rfl ⟨?_, fun w1 hS => ?_, ?_⟩; rotate_left; (focus (rw [HS.out] at hS; go_split_ands; go_simp; (try go_bits); try rfl)); simp only [Act.put, List.setIfInBounds_toArray, List.set_cons_zero, List.set_cons_succ])
            refine wpSeq_write rfl rfl ?_
            refine wp_store_row 32 (.tmp 2) (.tmp 57) rfl w.heap.size zeroReqv.toArray rfl rfl 32 _ HQc.out.z zeroReqv_info rfl zeroReqv_one ?_
            have z := HQc.out.z.setRow zeroReqv.toArray
            have hne : g ≠ w.heap.size := by omega
            have c82 : (w8.drew.setRow w.heap.size zeroReqv.toArray).cell? ⟨g, 1, none⟩ = some (.int .i64 (s7.1 : Int)) := by
              obtain ⟨A', n', c', hgb, -⟩ := HQc.out.rd
              exact ((Blk.setRow_far (w := w8.drew) hgb hne zeroReqv.toArray).cell 1).trans rfl
            refine ⟨fun _ => (HS.out _).mpr c82, ?_⟩
            try simp only [Act.put, List.setIfInBounds_toArray, List.set_cons_zero, List.set_cons_succ]
            repeat (refine wpSeq_read rfl rfl ⟨?_, fun w1 hS => ?_, ?_⟩; rotate_left; (focus (rw [HS.out] at hS; go_split_ands; go_simp; (try go_bits); try rfl)); simp only [Act.put, List.setIfInBounds_toArray, List.set_cons_zero, List.set_cons_succ])
            refine wpSeq_nil ?_
            go_wp2_with fail
            refine bodyPost_ret (results_cell_tmp2 rfl rfl (load_req z rfl)) rfl ⟨.slice none 0 0, .slice none 0 0, ?_, ?_, ?_, ?_⟩
            · rw [HZ.out]
              rfl
            · rw [HZ.out]
              exact OwnC.nil _ _
            · rw [HZ.out]
              exact OwnB.nil _ _
            · exact below_setRow HQc.out.b.drew (Nat.le_refl _) _

end Go.Proofs.YtbkdccamimakoaaDoor
