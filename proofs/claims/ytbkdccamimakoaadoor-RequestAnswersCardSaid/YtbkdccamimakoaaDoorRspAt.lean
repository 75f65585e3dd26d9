/-
  A response in memory, with all that it holds; hashes of the call's own; bits of flags.
-/
import Derived.Test.YtbkdccamimakoaaDoorAns
import Derived.Test.YtbkdccamimakoaaDoorReqDec
namespace Go.Proofs.YtbkdccamimakoaaDoor
open Go.RowKit
set_option linter.unusedVariables false
set_option maxRecDepth 100000

theorem Tryd.digs_info : (Tryd.prog.info? 27).map (fun i => (i.zero, i.size, i.bytes)) = some (some (.agg #[.int .u8 0, .int .u8 0, .int .u8 0, .int .u8 0, .int .u8 0, .int .u8 0, .int .u8 0, .int .u8 0, .int .u8 0, .int .u8 0, .int .u8 0, .int .u8 0, .int .u8 0, .int .u8 0, .int .u8 0, .int .u8 0, .int .u8 0, .int .u8 0, .int .u8 0, .int .u8 0, .int .u8 0, .int .u8 0, .int .u8 0, .int .u8 0, .int .u8 0, .int .u8 0, .int .u8 0, .int .u8 0, .int .u8 0, .int .u8 0, .int .u8 0, .int .u8 0]), 32, 32) := by kernel_rfl

/-- Hashes of the call's own. -/
def OwnD (w : World) (base : Nat) (v : Value) (l : List (List Nat)) : Prop := (∀ d ∈ l, d.length = 32) ∧ w.ownsRow base 27 32 v l.length (digv l)

theorem digv_one (l : List (List Nat)) : ∀ u ∈ digv l, u.oneCell' = true := by
  intro u hu
  unfold digv at hu
  obtain ⟨x, _, hx⟩ := List.mem_flatMap.1 hu
  exact byv_one x u hx

theorem digv_append (a b : List (List Nat)) : digv (a ++ b) = digv a ++ digv b := by simp [digv]

section
variable {w w' : World} {base : Nat} {v : Value} {l : List (List Nat)}
theorem OwnD.nil (w : World) (base : Nat) : OwnD w base (.slice none 0 0) [] := ⟨fun d hd => (nomatch hd), World.ownsRow_nil ..⟩
theorem OwnD.sl (h : OwnD w base v l) : ∃ A n c, v = .slice A n c ∧ n = l.length ∧ n ≤ c ∧ c ≤ maxLen ∧ Reads w w.heap.size 32 A n (digv l) := by
  obtain ⟨A, c, h1, h2, h3, h4⟩ := own_slice h.2
  exact ⟨A, _, c, h1, rfl, h2, h3, h4⟩
theorem OwnD.kept (h : OwnD w base v l) (hb : Below w.heap.size w w') : OwnD w' base v l :=
  ⟨h.1, World.ownsRow.kept h.2 ⟨hb.os, hb.tape, hb.output, hb.size, fun k hk _ => hb.block k hk⟩ (row := none) (by cases v.ownBlock <;> simp)⟩
theorem OwnD.alloc (h : OwnD w base v l) (o : Obj) : OwnD (w.alloc o) base v l := h.kept ((Below.refl _ _).alloc (Nat.le_refl _) o)
theorem OwnD.grown {g : Nat} {t : TypeId} {cs : Array Value} (h : OwnD w base v l) (hg : w.grownBy w' (some g)) (hb : Blk w g t cs) (ht : 27 ≠ t) : OwnD w' base v l :=
  ⟨h.1, World.ownsRow.kept h.2 hg (.inr (own_blk_ne h.2 hb ht))⟩
end

theorem wp_append_digs {w : World} {o : Oper} {a : Act} {K : Act → World → Prop} {Q : Exit → Act → World → Prop} (s x : Operand)
    (ho : o.op = .call { callee := .builtin .append, args := #[s, x], argTypes := #[51, 51] })
    (base : Nat) (v : Value) (l : List (List Nat)) (hs : a.eval s = v) (hown : OwnD w base v l) (A : Option Addr) (m c : Nat) (news : List (List Nat)) (hx : a.eval x = .slice A m c) (hm : news.length = m) (hnl : ∀ d ∈ news, d.length = 32) (hr : Reads w w.heap.size 32 A m (digv news))
    (hlen : l.length + m ≤ 4398046511104) (hbase : base ≤ w.heap.size)
    (h : ∀ v' w', OwnD w' base v' (l ++ news) → Below base w w' → w.grownBy w' v.ownBlock → K (a.put o.dst v') w') : o.wp Tryd.prog a w K Q := by
  obtain ⟨i0, hi0, hz0, hz1, hz2⟩ := info_parts Tryd.digs_info
  refine wp_append_any (P := Tryd.prog) w s x _ ho base 27 i0 _ 32 32 Tryd.underlying51 hi0 hz0 hz1 hz2 rfl (by omega) v l.length (digv l) hs hown.2 w.heap.size A m c (digv news) hx hr (digv_one _) (by simp only [maxLen]; omega) (by omega) hbase ?_
  intro v' w' h1 h2 h3
  refine h v' w' ?_ ?_ h2
  · refine ⟨fun d hd => ?_, ?_⟩
    · rcases List.mem_append.1 hd with hd | hd
      · exact hown.1 d hd
      · exact hnl d hd
    · rw [digv_append, List.length_append, hm]
      exact h1
  · exact below_appended (Below.refl _ _) hown.2 h2 (Nat.le_refl _) hbase

/-- A response in memory. -/
structure RspAt (w0 w : World) (G : Nat) (R : Rsp) (bv hv cav : Value) : Prop where
  q : Blk w G 57 (rspv R bv hv cav).toArray
  bo : OwnB w w0.heap.size bv R.bytes
  ho : OwnD w w0.heap.size hv R.hashes
  co : OwnC w w0.heap.size cav R.tok.2.1
  z : Blk w w0.heap.size 57 Tryd.zeroCells57
  bl : Below w0.heap.size w0 w

section
variable {w0 w w' : World} {G : Nat} {R : Rsp} {bv hv cav : Value}

theorem RspAt.grown {g : Nat} {t : TypeId} {cs : Array Value} (h : RspAt w0 w G R bv hv cav) (hg : w.grownBy w' (some g)) (hb : Blk w g t cs) (h1 : 5 ≠ t) (h2 : 27 ≠ t) (h3 : 104 ≠ t) (hne : G ≠ g) (hlt : w0.heap.size < g) : RspAt w0 w' G R bv hv cav :=
  ⟨h.q.grown hg (fun e => hne (by injection e)), World.ownsRow.kept h.bo hg (.inr (own_blk_ne h.bo hb h1)), h.ho.grown hg hb h2, World.ownsRow.kept h.co hg (.inr (own_blk_ne h.co hb h3)), h.z.grown hg (fun e => by injection e; omega), adv h.bl hg (by omega) hb.lt⟩

theorem RspAt.below (h : RspAt w0 w G R bv hv cav) (hb : Below w.heap.size w w') : RspAt w0 w' G R bv hv cav :=
  ⟨h.q.below hb h.q.lt, h.bo.kept hb, h.ho.kept hb, h.co.kept hb, h.z.below hb h.z.lt, h.bl.trans (hb.mono h.bl.size)⟩

theorem RspAt.drew (h : RspAt w0 w G R bv hv cav) : RspAt w0 w.drew G R bv hv cav := h.below (Below.refl _ _).drew

/-- A part of it is laid. -/
theorem RspAt.laid {R' : Rsp} {bv' hv' cav' : Value} (o : Nat) (cs : List Value) (hG : w0.heap.size < G) (h : RspAt w0 w G R bv hv cav) (hl : o + cs.length ≤ (rspv R bv hv cav).length) (e : (rspv R bv hv cav).take o ++ (cs ++ (rspv R bv hv cav).drop (o + cs.length)) = rspv R' bv' hv' cav')
    (b : OwnB w w0.heap.size bv' R'.bytes) (d : OwnD w w0.heap.size hv' R'.hashes) (c : OwnC w w0.heap.size cav' R'.tok.2.1) : RspAt w0 (w.setCells G o cs) G R' bv' hv' cav' := by
  have gs := grown_setCells G cs o w
  refine ⟨?_, World.ownsRow.kept b gs (.inr (own_blk_ne b h.q (by decide))), d.grown gs h.q (by decide), World.ownsRow.kept c gs (.inr (own_blk_ne c h.q (by decide))), h.z.grown gs (fun e => by injection e; omega), adv h.bl gs (by omega) h.q.lt⟩
  rw [← e]
  exact Blk.setCells cs o w _ h.q hl

/-- A cell of it is set. -/
theorem RspAt.set {R' : Rsp} {bv' hv' cav' : Value} (i : Nat) (u : Value) (hG : w0.heap.size < G) (h : RspAt w0 w G R bv hv cav) (e : (rspv R bv hv cav).toArray.setIfInBounds i u = (rspv R' bv' hv' cav').toArray)
    (b : OwnB w w0.heap.size bv' R'.bytes) (d : OwnD w w0.heap.size hv' R'.hashes) (c : OwnC w w0.heap.size cav' R'.tok.2.1) : RspAt w0 (w.setCell ⟨G, i, none⟩ u) G R' bv' hv' cav' := by
  have gs := only_setCell (p := ⟨G, i, none⟩) (World.grownBy.refl w (some G)) (.inl rfl) u
  refine ⟨?_, World.ownsRow.kept b gs (.inr (own_blk_ne b h.q (by decide))), d.grown gs h.q (by decide), World.ownsRow.kept c gs (.inr (own_blk_ne c h.q (by decide))), h.z.grown gs (fun e => by injection e; omega), adv h.bl gs (by omega) h.q.lt⟩
  rw [← e]
  exact h.q.set_ i u
end

theorem rspv_sethv (R : Rsp) (bv hv cav hv' : Value) (l : List (List Nat)) : (rspv R bv hv cav).toArray.setIfInBounds 3 hv' = (rspv { R with hashes := l } bv hv' cav).toArray := by simp [rspv]

theorem rspv_sethd (R : Rsp) (bv hv cav : Value) (h : Hd) (h1 : (hdv R.hd).length = 68) (h2 : (hdv h).length = 68) : (rspv R bv hv cav).take 4 ++ (hdv h ++ (rspv R bv hv cav).drop (4 + (hdv h).length)) = rspv { R with hd := h } bv hv cav := by
  rw [h2]
  have e : (rspv R bv hv cav).drop (4 + 68) = tokv R.tok.1 cav R.tok.2.2 := by
    unfold rspv
    show (hdv R.hd ++ tokv R.tok.1 cav R.tok.2.2).drop 68 = _
    exact List.drop_left' h1
  rw [e]
  simp [rspv]

theorem rspv_settok (R : Rsp) (bv hv cav : Value) (t : Tok) (cav' : Value) (h1 : (hdv R.hd).length = 68) (h2 : R.tok.2.2.length = 32) (h3 : t.2.2.length = 32) : (rspv R bv hv cav).take 72 ++ (tokv t.1 cav' t.2.2 ++ (rspv R bv hv cav).drop (72 + (tokv t.1 cav' t.2.2).length)) = rspv { R with tok := t } bv hv cav' := by
  rw [tokv_len _ _ _ h3]
  have e : (rspv R bv hv cav).drop (72 + 34) = [] := List.drop_eq_nil_of_le (by
    unfold rspv
    simp only [List.length_cons, List.length_append, h1, tokv_len _ _ _ h2]
    omega)
  have e2 : (rspv R bv hv cav).take 72 = .int .i64 R.why :: .int .u64 (R.n : Int) :: bv :: hv :: hdv R.hd := by
    unfold rspv
    show .int .i64 R.why :: .int .u64 (R.n : Int) :: bv :: hv :: (hdv R.hd ++ tokv R.tok.1 cav R.tok.2.2).take 68 = _
    rw [List.take_left' h1]
  rw [e, e2]
  simp [rspv]

theorem rspv_len' (R : Rsp) (bv hv cav : Value) (h1 : (hdv R.hd).length = 68) (h2 : R.tok.2.2.length = 32) : (rspv R bv hv cav).length = 106 := by
  unfold rspv
  simp only [List.length_cons, List.length_append, h1, tokv_len _ _ _ h2]

theorem rspv_one (R : Rsp) (bv hv cav : Value) (h1 : bv.oneCell' = true) (h2 : hv.oneCell' = true) (h3 : cav.oneCell' = true) : ∀ u ∈ rspv R bv hv cav, u.oneCell' = true := by
  intro u hu
  unfold rspv at hu
  simp only [List.mem_cons, List.mem_append] at hu
  rcases hu with rfl | rfl | rfl | rfl | hu | hu
  · rfl
  · rfl
  · exact h1
  · exact h2
  · exact hdv_one _ u hu
  · exact tokv_one _ _ h3 _ u hu

theorem built_rsp (y n : Int) (A : Option Addr) (m c : Nat) : Tryd.prog.built 57 [(0, .int .i64 y), (1, .int .u64 n), (2, .slice A m c)] = some (Value.int .i64 y :: .int .u64 n :: .slice A m c :: .slice none 0 0 :: (hdv Hd.zero ++ tokv zeroTok.1 (.slice none 0 0) zeroTok.2.2)).toArray := by kernel_rfl

theorem built_rsp0 : Tryd.prog.built 57 [] = some (rspv zeroRsp (.slice none 0 0) (.slice none 0 0) (.slice none 0 0)).toArray := by kernel_rfl

theorem load_rsp {w : World} {g : Nat} {L : List Value} (h : Blk w g 57 L.toArray) (hl : L.length = 106) : (loadVar 57 ⟨g, 0, none⟩).run Tryd.prog w = .ok (.agg L.toArray) w :=
  run_loadVar_mid _ _ 0 _ L _ (rangeAt_blk h 0 L (fun j u h => by simpa using h)) Tryd.underlying57 rfl (by rw [hl]; exact Tryd.rsp_info)

theorem and_one (n : Nat) (hn : n ≤ 255) : bits .and .u64 (n : Int) 1 = ((n % 2 : Nat) : Int) := by
  have : ∀ n : Fin 256, bits .and .u64 (n.val : Int) 1 = ((n.val % 2 : Nat) : Int) := by decide +kernel
  exact this ⟨n, by omega⟩

theorem and_two (n : Nat) (hn : n ≤ 255) : bits .and .u64 (n : Int) 2 = ((n / 2 % 2 * 2 : Nat) : Int) := by
  have : ∀ n : Fin 256, bits .and .u64 (n.val : Int) 2 = ((n.val / 2 % 2 * 2 : Nat) : Int) := by decide +kernel
  exact this ⟨n, by omega⟩

theorem rBytes_65535 (bs : List Nat) (s : RSt) (hb : ∀ x ∈ bs, x < 256) : rBytes bs s 65535 = rBytes bs s 65536 := by
  have h := rNum_lt bs s 2 hb
  have h2 : (rNum bs s 2).2 < 65536 := Nat.lt_of_lt_of_eq h (by decide)
  unfold rBytes
  rw [if_neg (fun e => by omega), if_neg (fun e => by omega)]

end Go.Proofs.YtbkdccamimakoaaDoor
