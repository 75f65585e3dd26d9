/-
  Requests: what goes well on a beginning goes alike on the whole; plain.
-/
import Derived.Test.YtbkdccamimakoaaDoorReqDec
import Derived.Test.YtbkdccamimakoaaDoorEnc
namespace Go.Proofs.YtbkdccamimakoaaDoor
open Go.RowKit
set_option linter.unusedVariables false
set_option maxRecDepth 100000

theorem rTake_pre (x : List Nat) (k : Nat) (s : RSt) (n : Nat) (h : (rTake (x.take k) s n).1.2 = none) : rTake x s n = rTake (x.take k) s n := by
  unfold rTake at h ⊢
  split at h
  · rename_i y hy
    exact absurd (hy.symm.trans h) (by simp)
  · split at h
    · rename_i hs hn
      rw [if_pos hn]
      have hl : (x.take k).length ≤ x.length := by rw [List.length_take]; omega
      rw [if_pos (by omega)]
      congr 1
      rw [List.length_take] at hn
      rw [List.drop_take, List.take_take]
      congr 1
      omega
    · cases h

theorem rNum_pre (x : List Nat) (k : Nat) (s : RSt) (n : Nat) (h : (rNum (x.take k) s n).1.2 = none) : rNum x s n = rNum (x.take k) s n := by
  have e := rTake_pre x k s n h
  unfold rNum
  rw [e]

theorem rNum_ne (bs : List Nat) (s : RSt) (n : Nat) (h : (rNum bs s n).1.2 = none) : s.2 = none := by
  cases hs : s.2 with
  | none => rfl
  | some x =>
    rw [rNum_ref bs s n x hs, hs] at h
    cases h

theorem rBytes_pre (x : List Nat) (k : Nat) (s : RSt) (m : Nat) (h : (rBytes (x.take k) s m).1.2 = none) : rBytes x s m = rBytes (x.take k) s m := by
  unfold rBytes at h ⊢
  have h1 : (rNum (x.take k) s 2).1.2 = none := by
    cases hs : (rNum (x.take k) s 2).1.2 with
    | none => rfl
    | some y =>
      rw [if_neg (by rw [hs]; simp), rTake_ref _ _ _ y hs, hs] at h
      cases h
  have h2 : ¬ (m < (rNum (x.take k) s 2).2) := fun hm => by
    rw [if_pos ⟨h1, hm⟩, rTake_ref _ _ _ _ rfl] at h
    cases h
  rw [rNum_pre x k s 2 h1]
  rw [if_neg (fun e => h2 e.2)] at h ⊢
  exact rTake_pre x k _ _ h

theorem reqGo_pre (x : List Nat) (k : Nat) : ∀ (l : List Fld) (s : RSt) (R : Req), (reqGo (x.take k) l s R).1.2 = none → reqGo x l s R = reqGo (x.take k) l s R
  | [], s, R, h => rfl
  | f :: l, s, R, h => by
    unfold reqGo at h ⊢
    split at h
    · rename_i h0
      rw [if_pos h0, if_pos h0]
      have h1 : (rBytes (x.take k) s 256).1.2 = none := by
        cases hs : (rBytes (x.take k) s 256).1.2 with
        | none => rfl
        | some y =>
          rw [reqGo_ref _ l _ _ y hs, hs] at h
          cases h
      rw [rBytes_pre x k s 256 h1]
      exact reqGo_pre x k l _ _ h
    · rename_i h0
      rw [if_neg h0, if_neg h0]
      have h1 : (rNum (x.take k) s f.1).1.2 = none := by
        cases hs : (rNum (x.take k) s f.1).1.2 with
        | none => rfl
        | some y =>
          rw [reqGo_ref _ l _ _ y hs, hs] at h
          cases h
      rw [rNum_pre x k s f.1 h1]
      exact reqGo_pre x k l _ _ h

theorem reqDecS_pre (x : List Nat) (k : Nat) (h : (reqDecS (x.take k)).1.2 = none) : reqDecS x = reqDecS (x.take k) := by
  have ht : (reqTok (x.take k)).2 = none := by
    cases hs : (reqTok (x.take k)).2 with
    | none => rfl
    | some y =>
      have e := rNum_ref (x.take k) (reqTok (x.take k)) 1 y hs
      have g := reqDecS_go (x.take k) _ _ e
      have e0 : fieldsOf ((0 : Nat) : Int) = none := by decide
      rw [e0] at g
      simp only [Option.getD_none, reqGo, Option.isSome_none, Bool.false_eq_true, if_false] at g
      rw [g, rRefuse_ref _ _ _ y hs, hs] at h
      cases h
  have hb : (rBytes (x.take k) (0, none) 77).1.2 = none := by
    cases hs : (rBytes (x.take k) (0, none) 77).1.2 with
    | none => rfl
    | some y =>
      unfold reqTok at ht
      split at ht
      · rw [hs] at ht; cases ht
      · rw [rRefuse_ref _ _ _ y hs, hs] at ht; cases ht
  have eb := rBytes_pre x k (0, none) 77 hb
  have et : reqTok x = reqTok (x.take k) := by unfold reqTok; rw [eb]
  have eT : reqT x = reqT (x.take k) := by unfold reqT; rw [eb]
  have h7 : (rNum (x.take k) (reqTok (x.take k)) 1).1.2 = none := by
    cases hs : (rNum (x.take k) (reqTok (x.take k)) 1).1.2 with
    | none => rfl
    | some y =>
      have g := reqDecS_go (x.take k) (rNum (x.take k) (reqTok (x.take k)) 1).1 (rNum (x.take k) (reqTok (x.take k)) 1).2 rfl
      have e9 : (if (fieldsOf ((rNum (x.take k) (reqTok (x.take k)) 1).2 : Int)).isSome then (rNum (x.take k) (reqTok (x.take k)) 1).1 else rRefuse (rNum (x.take k) (reqTok (x.take k)) 1).1 (rNum (x.take k) (reqTok (x.take k)) 1).1.1 12) = (rNum (x.take k) (reqTok (x.take k)) 1).1 := by
        split
        · rfl
        · exact rRefuse_ref _ _ _ y hs
      rw [e9] at g
      rw [g, reqGo_ref _ _ _ _ y hs, hs] at h
      cases h
  have e7 : rNum x (reqTok x) 1 = rNum (x.take k) (reqTok (x.take k)) 1 := by rw [et]; exact rNum_pre x k _ 1 h7
  unfold reqDecS at h ⊢
  rw [e7, eT]
  split at h
  · exact absurd h (rRefuse_some _ _ _)
  · exact reqGo_pre x k _ _ _ h

theorem rRefuse_le (bs : List Nat) (s : RSt) (a y : Nat) (h : s.1 ≤ bs.length) : (rRefuse s a y).1 ≤ bs.length := by
  unfold rRefuse
  split
  · exact h
  · exact h

theorem rNum_le (bs : List Nat) (s : RSt) (n : Nat) (h : s.1 ≤ bs.length) : (rNum bs s n).1.1 ≤ bs.length := rTake_le bs s n h

theorem rBytes_le (bs : List Nat) (s : RSt) (m : Nat) (h : s.1 ≤ bs.length) : (rBytes bs s m).1.1 ≤ bs.length := by
  unfold rBytes
  refine rTake_le bs _ _ ?_
  split
  · exact h
  · exact rNum_le bs s 2 h

theorem reqGo_le (bs : List Nat) : ∀ (l : List Fld) (s : RSt) (R : Req), s.1 ≤ bs.length → (reqGo bs l s R).1.1 ≤ bs.length
  | [], s, R, h => h
  | f :: l, s, R, h => by
    unfold reqGo
    split
    · exact reqGo_le bs l _ _ (rBytes_le bs s 256 h)
    · exact reqGo_le bs l _ _ (rNum_le bs s f.1 h)

theorem reqDecS_le (bs : List Nat) : (reqDecS bs).1.1 ≤ bs.length := by
  have ht : (reqTok bs).1 ≤ bs.length := by
    unfold reqTok
    split
    · exact rBytes_le bs _ _ (Nat.zero_le _)
    · exact rRefuse_le bs _ _ _ (rBytes_le bs _ _ (Nat.zero_le _))
  unfold reqDecS
  split
  · exact rRefuse_le bs _ _ _ (rNum_le bs _ _ ht)
  · exact reqGo_le bs _ _ _ (rNum_le bs _ _ ht)

/-- No proper beginning of a request is one. -/
theorem reqDec_pre (x : List Nat) (k : Nat) (R : Req) (hk : k < x.length) (h : reqDec x = (none, R)) : (reqDec (x.take k)).1 ≠ none := by
  intro h0
  unfold reqDec at h h0
  have hl : (x.take k).length = k := by rw [List.length_take]; omega
  cases hE : rEnd (x.take k) (reqDecS (x.take k)).1 with
  | some y =>
    rw [hE] at h0
    cases h0
  | none =>
    have hn : (reqDecS (x.take k)).1.2 = none ∧ k ≤ (reqDecS (x.take k)).1.1 := by
      unfold rEnd at hE
      split at hE
      · cases hE
      · rename_i hs
        split at hE
        · cases hE
        · exact ⟨hs, by omega⟩
    have hle := reqDecS_le (x.take k)
    rw [hl] at hle
    have e := reqDecS_pre x k hn.1
    have hx : rEnd x (reqDecS x).1 = some ((reqDecS x).1.1, 11) := by
      rw [e]
      unfold rEnd
      rw [hn.1]
      simp only
      rw [if_pos (by omega)]
    rw [hx] at h
    cases h

end Go.Proofs.YtbkdccamimakoaaDoor
