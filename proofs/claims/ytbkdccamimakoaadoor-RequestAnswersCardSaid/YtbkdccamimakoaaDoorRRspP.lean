/-
  Where the document's reader of a response stands; what it comes to.
-/
import Derived.Test.YtbkdccamimakoaaDoorRspDec
import Derived.Test.YtbkdccamimakoaaDoorRDecode
namespace Go.Proofs.YtbkdccamimakoaaDoor
open Go.RowKit
set_option linter.unusedVariables false
set_option maxRecDepth 100000

theorem own_rref {w w' : World} {base g : Nat} {e : TypeId} {sz m : Nat} {v : Value} {xs : List Value} {bs : List Nat} {s : RSt} (h : w.ownsRow base e sz v m xs) (hr : RRd w g bs s) (hg : w.grownBy w' (some g)) (he : e ≠ 86) : w'.ownsRow base e sz v m xs :=
  World.ownsRow.kept h hg (.inr (fun e' => by
    obtain ⟨A', n', c', hgb, -⟩ := hr
    exact own_blk_ne h hgb he e'))

/-- Where the document's reader of a response stands. -/
structure RP (W w : World) (g G : Nat) (bs : List Nat) (s : RSt) (R : Rsp) (bv hv cav : Value) : Prop where
  rd : RRd w g bs s
  q : Blk w G 57 (rspv R bv hv cav).toArray
  z : Blk w W.heap.size 57 Tryd.zeroCells57
  bo : OwnB w (g + 1) bv R.bytes
  ho : OwnD w (g + 1) hv R.hashes
  co : OwnC w (g + 1) cav R.tok.2.1
  b : Below W.heap.size W w
  gG : g < G
  wg : W.heap.size < g

section
variable {W w w' : World} {g G : Nat} {bs : List Nat} {s s' : RSt} {R R' : Rsp} {bv hv cav bv' hv' cav' : Value}

theorem RP.num (h : RP W w g G bs s R bv hv cav) (hr : RRd w' g bs s') (hg : w.grownBy w' (some g)) : RP W w' g G bs s' R bv hv cav :=
  ⟨hr, h.q.grown hg (by have := h.gG; simp; omega), h.z.grown hg (by have := h.wg; simp; omega), own_rref h.bo h.rd hg (by decide), ⟨h.ho.1, own_rref h.ho.2 h.rd hg (by decide)⟩, own_rref h.co h.rd hg (by decide), adv h.b hg (Nat.le_of_lt h.wg) h.rd.lt, h.gG, h.wg⟩

theorem RP.below (h : RP W w g G bs s R bv hv cav) (hb : Below w.heap.size w w') : RP W w' g G bs s R bv hv cav :=
  ⟨h.rd.below hb, h.q.below hb h.q.lt, h.z.below hb h.z.lt, h.bo.kept hb, h.ho.kept hb, h.co.kept hb, h.b.trans (hb.mono h.b.size), h.gG, h.wg⟩

theorem RP.drew (h : RP W w g G bs s R bv hv cav) : RP W w.drew g G bs s R bv hv cav := h.below (Below.refl _ _).drew

theorem RP.laid (o : Nat) (cs : List Value) (h : RP W w g G bs s R bv hv cav) (hl : o + cs.length ≤ (rspv R bv hv cav).length) (e : (rspv R bv hv cav).take o ++ (cs ++ (rspv R bv hv cav).drop (o + cs.length)) = rspv R' bv' hv' cav')
    (b : OwnB w (g + 1) bv' R'.bytes) (d : OwnD w (g + 1) hv' R'.hashes) (c : OwnC w (g + 1) cav' R'.tok.2.1) : RP W (w.setCells G o cs) g G bs s R' bv' hv' cav' := by
  have gs := grown_setCells G cs o w
  have hgG := h.gG
  have hwg := h.wg
  refine ⟨h.rd.kept gs h.gG, ?_, h.z.grown gs (by simp; omega), World.ownsRow.kept b gs (.inr (own_blk_ne b h.q (by decide))), d.grown gs h.q (by decide), World.ownsRow.kept c gs (.inr (own_blk_ne c h.q (by decide))), adv h.b gs (by omega) h.q.lt, h.gG, h.wg⟩
  rw [← e]
  exact Blk.setCells cs o w _ h.q hl

theorem RP.set (i : Nat) (u : Value) (h : RP W w g G bs s R bv hv cav) (e : (rspv R bv hv cav).toArray.setIfInBounds i u = (rspv R' bv' hv' cav').toArray)
    (b : OwnB w (g + 1) bv' R'.bytes) (d : OwnD w (g + 1) hv' R'.hashes) (c : OwnC w (g + 1) cav' R'.tok.2.1) : RP W (w.setCell ⟨G, i, none⟩ u) g G bs s R' bv' hv' cav' := by
  have gs := only_setCell (p := ⟨G, i, none⟩) (World.grownBy.refl w (some G)) (.inl rfl) u
  have hgG := h.gG
  have hwg := h.wg
  refine ⟨h.rd.kept gs h.gG, ?_, h.z.grown gs (by simp; omega), World.ownsRow.kept b gs (.inr (own_blk_ne b h.q (by decide))), d.grown gs h.q (by decide), World.ownsRow.kept c gs (.inr (own_blk_ne c h.q (by decide))), adv h.b gs (by omega) h.q.lt, h.gG, h.wg⟩
  rw [← e]
  exact h.q.set_ i u
end

theorem rspv_set0 (R : Rsp) (bv hv cav : Value) (y : Int) : (rspv R bv hv cav).toArray.setIfInBounds 0 (.int .i64 y) = (rspv { R with why := y } bv hv cav).toArray := by simp [rspv]

theorem rspv_set1 (R : Rsp) (bv hv cav : Value) (n : Nat) : (rspv R bv hv cav).toArray.setIfInBounds 1 (.int .u64 n) = (rspv { R with n := n } bv hv cav).toArray := by simp [rspv]

theorem rspv_set2 (R : Rsp) (bv hv cav v : Value) (l : List Nat) : (rspv R bv hv cav).toArray.setIfInBounds 2 v = (rspv { R with bytes := l } v hv cav).toArray := by simp [rspv]

theorem RRd.grownD {w w' : World} {g base : Nat} {bs : List Nat} {s : RSt} {v : Value} {l : List (List Nat)} (h : RRd w g bs s) (ho : OwnD w base v l) (hg : w.grownBy w' v.ownBlock) (hb : g < base) : RRd w' g bs s := by
  rcases ho.2.2 with ⟨rfl, _⟩ | ⟨q, cap, cur, rfl, hq, hh, _⟩
  · exact h.below ⟨hg.os, hg.tape, hg.output, hg.size, fun k hk => hg.block k hk (by simp [Value.ownBlock])⟩
  · exact h.kept (k := q) (by simpa [Value.ownBlock] using hg) (by omega)

theorem zrsp_eq : Tryd.zeroCells57 = (rspv zeroRsp (.slice none 0 0) (.slice none 0 0) (.slice none 0 0)).toArray := by kernel_rfl

/-! ## What it comes to -/

theorem rp6_ref {bs : List Nat} {x : Nat × Nat} (h : (rp6 bs).1.2 = some x) : rspDec bs = (some x, zeroRsp) := by
  have h6 : (rp6 bs).1.2 = some x := h
  have h7 : rp7 bs = (rp6 bs).1 := by
    unfold rp7
    split
    · exact rRefuse_ref _ _ _ x h6
    · rfl
  have h8 : (rp8 bs).1 = (rp6 bs).1 := by
    unfold rp8
    split
    · rw [rHead_ref bs _ x (by rw [h7]; exact h6), h7]
    · exact h7
  have h9 : (rp9 bs).1 = (rp6 bs).1 := by
    unfold rp9
    split
    · rw [rTokB_ref bs _ x (by rw [h8]; exact h6), h8]
    · exact h8
  unfold rspDec
  rw [h9]
  unfold rEnd
  rw [h6]

theorem rp5_ref {bs : List Nat} {x : Nat × Nat} (h : (rp5 bs).1.2 = some x) : rspDec bs = (some x, zeroRsp) := by
  refine rp6_ref ?_
  unfold rp6
  rw [rNum_ref bs _ 1 x h]
  exact h

theorem rp6_bad {bs : List Nat} {s : RSt} {k : Nat} (h : rp6 bs = (s, k)) (hs : s.2 = none) (hk : 3 < k) : rspDec bs = (some (s.1, 12), zeroRsp) := by
  have h7 : rp7 bs = rRefuse s s.1 12 := by
    unfold rp7
    rw [h]
    exact if_pos hk
  have h72 : (rp7 bs).2 = some (s.1, 12) := by
    rw [h7]
    unfold rRefuse
    rw [hs]
  have h8 : (rp8 bs).1 = rp7 bs := by
    unfold rp8
    split
    · rw [rHead_ref bs _ _ h72]
    · rfl
  have h9 : (rp9 bs).1 = rp7 bs := by
    unfold rp9
    split
    · rw [rTokB_ref bs _ _ (by rw [h8]; exact h72), h8]
    · exact h8
  unfold rspDec
  rw [h9]
  unfold rEnd
  rw [h72]

theorem rp8_ref {bs : List Nat} {x : Nat × Nat} (h : (rp8 bs).1.2 = some x) : rspDec bs = (some x, zeroRsp) := by
  have h9 : (rp9 bs).1 = (rp8 bs).1 := by
    unfold rp9
    split
    · rw [rTokB_ref bs _ _ h]
    · rfl
  unfold rspDec
  rw [h9]
  unfold rEnd
  rw [h]

theorem rp9_ref {bs : List Nat} {x : Nat × Nat} (h : (rp9 bs).1.2 = some x) : rspDec bs = (some x, zeroRsp) := by
  unfold rspDec rEnd
  rw [h]

/-- Ahead of the tokens: what codec's reader comes to, or a refusal like its. -/
def Way8 (bs : List Nat) (s5 : RSt) (l : List (List Nat)) (s6 : RSt) (k : Nat) (s : RSt) (hd : Hd) : Prop := (s.2 = none ∧ rp5 bs = (s5, l) ∧ rp6 bs = (s6, k) ∧ k ≤ 3 ∧ rp8 bs = (s, hd)) ∨ (∃ x, s.2 = some x ∧ rspDec bs = (some x, zeroRsp))

/-- Ahead of the head. -/
def Way6 (bs : List Nat) (s5 : RSt) (l : List (List Nat)) (s : RSt) (k : Nat) : Prop := (s.2 = none ∧ rp5 bs = (s5, l) ∧ rp6 bs = (s, k)) ∨ (∃ x, s.2 = some x ∧ k = 0 ∧ rspDec bs = (some x, zeroRsp))

theorem Way6.of {bs : List Nat} {s5 : RSt} {l : List (List Nat)} {s : RSt} {k : Nat} (h : (s5.2 = none ∧ rp5 bs = (s5, l)) ∨ (∃ x, s5.2 = some x ∧ (rp5 bs).1.2 = some x)) (hk : rNum bs s5 1 = (s, k)) : Way6 bs s5 l s k := by
  have hn := rNum_none bs s5 1
  rw [hk] at hn
  dsimp only at hn
  rcases h with ⟨h1, h2⟩ | ⟨x, h1, h2⟩
  · have h6 : rp6 bs = (s, k) := by unfold rp6; rw [h2]; exact hk
    cases hs : s.2 with
    | none => exact .inl ⟨hs, h2, h6⟩
    | some x => exact .inr ⟨x, hs, hn (by rw [hs]; simp), rp6_ref (by rw [h6]; exact hs)⟩
  · rw [rNum_ref bs s5 1 x h1] at hk
    injection hk with e1 e2
    subst e1
    exact .inr ⟨x, h1, e2.symm, rp5_ref h2⟩

theorem Way6.bad {bs : List Nat} {s5 : RSt} {l : List (List Nat)} {s : RSt} {k : Nat} (h : Way6 bs s5 l s k) (hs : s.2 = none) (hk : 3 < k) : rspDec bs = (some (s.1, 12), zeroRsp) := by
  rcases h with ⟨-, -, h6⟩ | ⟨x, hx, -, -⟩
  · exact rp6_bad h6 hs hk
  · rw [hs] at hx; cases hx

theorem rp7_small {bs : List Nat} {s : RSt} {k : Nat} (h : rp6 bs = (s, k)) (hk : k ≤ 3) : rp7 bs = s := by
  unfold rp7
  rw [h]
  exact if_neg (by simp; omega)

theorem Way6.plain {bs : List Nat} {s5 : RSt} {l : List (List Nat)} {s : RSt} {k : Nat} (h : Way6 bs s5 l s k) (hk : ¬ (s.2 = none ∧ 3 < k)) (h1 : ¬ k % 2 = 1) : Way8 bs s5 l s k s Hd.zero := by
  rcases h with ⟨h0, h5, h6⟩ | ⟨x, hx, -, hr⟩
  · have h3 : k ≤ 3 := by
      rcases Nat.lt_or_ge 3 k with h | h
      · exact absurd ⟨h0, h⟩ hk
      · exact h
    refine .inl ⟨h0, h5, h6, h3, ?_⟩
    unfold rp8
    rw [h6, rp7_small h6 h3]
    exact if_neg h1
  · exact .inr ⟨x, hx, hr⟩

theorem Way6.headed {bs : List Nat} {s5 : RSt} {l : List (List Nat)} {s : RSt} {k : Nat} (h : Way6 bs s5 l s k) (hk : ¬ (s.2 = none ∧ 3 < k)) (h1 : k % 2 = 1) : s.2 = none ∧ rp5 bs = (s5, l) ∧ rp6 bs = (s, k) ∧ k ≤ 3 ∧ rp8 bs = rHead bs s := by
  rcases h with ⟨h0, h5, h6⟩ | ⟨x, hx, h0, hr⟩
  · have h3 : k ≤ 3 := by
      rcases Nat.lt_or_ge 3 k with h | h
      · exact absurd ⟨h0, h⟩ hk
      · exact h
    refine ⟨h0, h5, h6, h3, ?_⟩
    unfold rp8
    rw [h6, rp7_small h6 h3]
    exact if_pos h1
  · omega

/-- A head that is zero. -/
theorem headed_bad {bs : List Nat} {s s8 : RSt} {hd : Hd} (h8 : rp8 bs = rHead bs s) (e8 : (rh7 bs s).1 = s8) (eh : rhH bs s = hd) (hs : s8.2 = none) (hz : hd = Hd.zero) : rspDec bs = (some (s8.1, 12), zeroRsp) := by
  refine rp8_ref ?_
  rw [h8]
  unfold rHead
  rw [eh, e8, if_pos hz]
  unfold rRefuse
  rw [hs]

theorem headed_good {bs : List Nat} {s5 : RSt} {l : List (List Nat)} {s6 : RSt} {k : Nat} {s8 : RSt} {hd : Hd} (h5 : rp5 bs = (s5, l)) (h6 : rp6 bs = (s6, k)) (h3 : k ≤ 3) (h8 : rp8 bs = rHead bs s6) (e8 : (rh7 bs s6).1 = s8) (eh : rhH bs s6 = hd) (hb : ¬ (s8.2 = none ∧ hd = Hd.zero)) : Way8 bs s5 l s6 k s8 hd := by
  cases hs : s8.2 with
  | none =>
    refine .inl ⟨hs, h5, h6, h3, ?_⟩
    rw [h8]
    unfold rHead
    rw [eh, e8, if_neg (fun hz => hb ⟨hs, hz⟩)]
  | some x =>
    refine .inr ⟨x, hs, rp8_ref ?_⟩
    rw [h8]
    unfold rHead
    rw [eh, e8]
    dsimp only
    split
    · rw [rRefuse_ref _ _ _ x hs]; exact hs
    · exact hs

theorem Way8.tok {bs : List Nat} {s5 : RSt} {l : List (List Nat)} {s6 : RSt} {k : Nat} {s8 : RSt} {hd : Hd} (h : Way8 bs s5 l s6 k s8 hd) (hs : s8.2 = none) : rp5 bs = (s5, l) ∧ rp6 bs = (s6, k) ∧ k ≤ 3 ∧ rp8 bs = (s8, hd) := by
  rcases h with ⟨-, h⟩ | ⟨x, hx, -⟩
  · exact h
  · rw [hs] at hx; cases hx

/-- At the end. -/
def Fin18 (bs : List Nat) (s : RSt) (R : Rsp) : Prop := rspDec bs = match rEnd bs s with
  | none => (none, R)
  | some x => (some x, zeroRsp)

theorem Fin18.refused {bs : List Nat} {s : RSt} {R : Rsp} {x : Nat × Nat} (hs : s.2 = some x) (h : rspDec bs = (some x, zeroRsp)) : Fin18 bs s R := by
  unfold Fin18 rEnd
  rw [hs]
  exact h

theorem rp9_tok {bs : List Nat} {s6 : RSt} {k : Nat} {s8 : RSt} {hd : Hd} (h6 : rp6 bs = (s6, k)) (h8 : rp8 bs = (s8, hd)) (h1 : 1 < k) (h3 : k ≤ 3) : rp9 bs = rTokB bs s8 := by
  unfold rp9
  rw [h6, h8]
  exact if_pos (show k / 2 % 2 = 1 by omega)

theorem rp9_none {bs : List Nat} {s6 : RSt} {k : Nat} {s8 : RSt} {hd : Hd} (h6 : rp6 bs = (s6, k)) (h8 : rp8 bs = (s8, hd)) (h1 : ¬ 1 < k) : rp9 bs = (s8, zeroTok) := by
  unfold rp9
  rw [h6, h8]
  exact if_neg (show ¬ k / 2 % 2 = 1 by omega)

theorem Fin18.good {bs : List Nat} {s : RSt} {R : Rsp} (h9 : (rp9 bs).1 = s) (hR : rpR bs = R) : Fin18 bs s R := by
  unfold Fin18 rspDec
  rw [h9, hR]
  cases rEnd bs s <;> rfl

/-- On the way through the hashes. -/
def WayD (bs : List Nat) (n : Nat) (s : RSt) (l : List (List Nat)) : Prop := (s.2 = none ∧ digGo bs n s l = rp5 bs) ∨ (∃ x, s.2 = some x ∧ (rp5 bs).1.2 = some x)

theorem WayD.step {bs : List Nat} {n : Nat} {s : RSt} {l : List (List Nat)} (h : WayD bs (n + 1) s l) (hs : s.2 = none) : WayD bs n (rDig bs s).1 (l ++ [(rDig bs s).2]) := by
  rcases h with ⟨-, h⟩ | ⟨x, hx, -⟩
  · cases h2 : (rDig bs s).1.2 with
    | none => exact .inl ⟨h2, h⟩
    | some x => exact .inr ⟨x, h2, by rw [← h]; show (digGo bs n (rDig bs s).1 _).1.2 = _; rw [digGo_ref bs n _ _ x h2]; exact h2⟩
  · rw [hs] at hx
    cases hx

theorem WayD.stop {bs : List Nat} {n : Nat} {s : RSt} {l : List (List Nat)} (h : WayD bs n s l) (hs : n = 0 ∨ s.2 ≠ none) : (s.2 = none ∧ rp5 bs = (s, l)) ∨ (∃ x, s.2 = some x ∧ (rp5 bs).1.2 = some x) := by
  rcases h with ⟨h1, h⟩ | h
  · rcases hs with rfl | hs
    · exact .inl ⟨h1, h.symm⟩
    · exact absurd h1 hs
  · exact .inr h

theorem WayD.start (bs : List Nat) (k : Nat) (hk : (rp4 bs).2 = k) : WayD bs k (rp4 bs).1 [] := by
  subst hk
  cases h : (rp4 bs).1.2 with
  | none => exact .inl ⟨h, rfl⟩
  | some x => exact .inr ⟨x, h, by unfold rp5; rw [digGo_ref bs _ _ _ x h]; exact h⟩

end Go.Proofs.YtbkdccamimakoaaDoor
