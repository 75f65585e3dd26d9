/-
  Requests: what is encoded is decoded, what is decoded is encoded; plain.
-/
import Derived.Test.YtbkdccamimakoaaDoorBackQ
namespace Go.Proofs.YtbkdccamimakoaaDoor
open Go.RowKit
set_option linter.unusedVariables false
set_option maxRecDepth 100000

theorem bodyGo_zero (R : Req) : ∀ (l : List Fld) (acc : List Nat), (bodyGo R l acc).1 = 0 → ∀ f ∈ l, fldWhy R f = 0
  | [], acc, _ => fun f hf => by cases hf
  | f :: l, acc, h => by
    unfold bodyGo at h
    split at h
    · rename_i h0
      intro g hg
      rcases List.mem_cons.1 hg with rfl | hg
      · exact h0
      · exact bodyGo_zero R l _ h g hg
    · rename_i h0
      exact absurd h h0

theorem setF_keep (R : Req) : ∀ (l : List Fld) (Q : Req), (l.foldl (setF R) Q).op = Q.op ∧ (l.foldl (setF R) Q).tid = Q.tid ∧ (l.foldl (setF R) Q).cavs = Q.cavs ∧ (l.foldl (setF R) Q).tag = Q.tag
  | [], Q => ⟨rfl, rfl, rfl, rfl⟩
  | f :: l, Q => by
    have ih := setF_keep R l (setF R Q f)
    have h1 : (setF R Q f).op = Q.op ∧ (setF R Q f).tid = Q.tid ∧ (setF R Q f).cavs = Q.cavs ∧ (setF R Q f).tag = Q.tag := by
      unfold setF
      split
      · exact ⟨rfl, rfl, rfl, rfl⟩
      · obtain ⟨a, b, c, -, d⟩ := put_tok Q f.2.2 (R.num f.2.2).toNat
        exact ⟨d, a, b, c⟩
    rw [h1.1, h1.2.1, h1.2.2.1, h1.2.2.2] at ih
    exact ih

theorem setF_tree (R : Req) (l : List Fld) (hl : fieldsOf R.op = some l) (hw : ∀ f ∈ l, fldWhy R f = 0) (ht : treesB R.op = true) (Q : Req) : (l.foldl (setF R) Q).tree = R.tree := by
  obtain ⟨h1, h2, -⟩ := fields_len R.op l hl
  have hp : 0 ≤ R.tree → ((R.tree.toNat : Nat) : Int) = R.tree := fun h => by omega
  have key : ∀ l', l = (1, 1, 35) :: l' → 0 ≤ R.tree := fun l' e => by
    have := hw (1, 1, 35) (by rw [e]; simp)
    simp only [fldWhy, if_true, Req.num] at this
    split at this
    · omega
    · cases this
  rcases opCases h1 h2 with e | e | e | e | e | e | e | e | e | e | e | e <;> rw [e] at hl ht <;> simp [fieldsOf] at hl <;> subst hl <;> first
    | (simp [treesB] at ht; done)
    | (simp only [List.foldl, setF, Req.num, Req.put]; exact hp (key _ rfl))
    | (have q := hp (key _ rfl); simp [setF, Req.num, Req.put, q])

theorem setF_leaf (R : Req) (l : List Fld) (hl : fieldsOf R.op = some l) (ho : R.op = 1) (Q : Req) : (l.foldl (setF R) Q).leaf = R.leaf := by
  rw [ho] at hl
  simp [fieldsOf] at hl
  subst hl
  simp [setF]

/-- What is encoded is decoded. -/
theorem back_there (R : Req) (x : List Nat) (hR : R.Good) (h : encRes R = (0, x)) :
    ∃ S, reqDec x = (none, S) ∧ S.op = R.op ∧ S.tid = R.tid ∧ S.cavs = R.cavs ∧ S.tag = R.tag ∧ (treesB R.op = true → S.tree = R.tree) ∧ (R.op = 1 → S.leaf = R.leaf) ∧ R.cavs.length ≤ 4 := by
  unfold encRes at h
  split at h
  · rename_i hb
    split at h
    · rename_i ht
      injection h with _ hx
      cases hl : fieldsOf R.op with
      | none => unfold bodyRes at hb; rw [hl] at hb; cases hb
      | some l =>
        have hw : ∀ f ∈ l, fldWhy R f = 0 := by
          unfold bodyRes at hb
          rw [hl] at hb
          exact bodyGo_zero R l _ hb
        obtain ⟨ho1, ho2, -⟩ := fields_len R.op l hl
        have hbody := bodyRes_ok R l hl hw
        rw [hbody] at hx
        simp only at hx
        obtain ⟨htd, hcl⟩ := tokDec_res R.tid R.cavs R.tag hR.tid hR.cavn hR.tag ht
        have htl := tokRes_len R.tid R.cavs R.tag hR.tag
        obtain ⟨tb, htb⟩ : ∃ tb, (tokRes R.tid R.cavs R.tag).2 = tb := ⟨_, rfl⟩
        rw [htb] at htd htl hx
        have e1 := rBytes_at [] tb (be R.op.toNat 1 ++ l.flatMap (fldB R)) 77 (by omega) (by omega)
        simp only [List.nil_append, List.length_nil, Nat.zero_add] at e1
        rw [hx] at e1
        have ht2 : reqTok x = (2 + tb.length, none) := by
          unfold reqTok
          rw [e1]
          simp only [htd, if_true]
        have hT : reqT x = (R.tid, R.cavs, R.tag) := by
          unfold reqT
          rw [e1]
          simp only [htd]
        have hlt := txt_length tb (by omega)
        have e2 := rNum_at (txt tb) (l.flatMap (fldB R)) R.op.toNat 1 (by omega)
        rw [hlt, hx] at e2
        have e3 := reqGo_at R ⟨hR.id, hR.lo, hR.hi, hR.rate, hR.burst, hR.store, hR.expires⟩ l (txt tb ++ be R.op.toNat 1) [] (req0 (R.tid, R.cavs, R.tag) ((R.op.toNat : Nat) : Int)) (fun f hf => ⟨isFld R.op l hl f hf, hw f hf⟩)
        rw [List.append_nil, List.length_append, hlt, be_length, List.append_assoc, hx] at e3
        have eo : ((R.op.toNat : Nat) : Int) = R.op := by omega
        have e4 := reqDecS_go x (2 + tb.length + 1, none) R.op.toNat (by rw [ht2]; exact e2)
        rw [eo, hl, hT] at e4
        simp only [Option.isSome_some, if_true, Option.getD_some] at e4
        rw [eo] at e3
        have e5 := e4.trans e3
        have hxl : x.length = 2 + tb.length + 1 + (l.flatMap (fldB R)).length := by
          rw [← hx]
          simp only [List.length_append, hlt, be_length]
          omega
        refine ⟨l.foldl (setF R) (req0 (R.tid, R.cavs, R.tag) R.op), ?_, ?_⟩
        · unfold reqDec
          rw [e5]
          unfold rEnd
          simp only
          rw [if_neg (by omega)]
        · obtain ⟨a, b, c, d⟩ := setF_keep R l (req0 (R.tid, R.cavs, R.tag) R.op)
          exact ⟨a, b, c, d, fun ht => setF_tree R l hl hw ht _, fun h1 => setF_leaf R l hl h1 _, hcl⟩
    · rename_i ht
      injection h with h1 _
      exact absurd h1 ht
  · rename_i hb
    injection h with h1 _
    exact absurd h1 hb

theorem put_num (R : Req) (f : Fld) (hf : IsFld f) (h0 : f.2.1 ≠ 0) (n : Nat) : (R.put f.2.2 n).num f.2.2 = n := by
  unfold IsFld at hf
  rcases hf with rfl | rfl | rfl | rfl | rfl | rfl | rfl | rfl | rfl | rfl | rfl | rfl | rfl
  all_goals first
    | exact absurd rfl h0
    | rfl

theorem put_far (R : Req) (f g : Fld) (hf : IsFld f) (hg : IsFld g) (h : f.2.2 ≠ g.2.2) (n : Nat) : (R.put g.2.2 n).num f.2.2 = R.num f.2.2 := by
  unfold IsFld at hf hg
  rcases hf with rfl | rfl | rfl | rfl | rfl | rfl | rfl | rfl | rfl | rfl | rfl | rfl | rfl <;>
    rcases hg with rfl | rfl | rfl | rfl | rfl | rfl | rfl | rfl | rfl | rfl | rfl | rfl | rfl <;>
    first
      | rfl
      | exact absurd rfl h

theorem fld_zero {f : Fld} (hf : IsFld f) : f.2.1 = 0 ↔ f.2.2 = 0 := by
  unfold IsFld at hf
  rcases hf with rfl | rfl | rfl | rfl | rfl | rfl | rfl | rfl | rfl | rfl | rfl | rfl | rfl <;> simp

theorem reqGo_far (bs : List Nat) (f : Fld) (hf : IsFld f) : ∀ (l : List Fld) (s : RSt) (R : Req), (∀ g ∈ l, IsFld g ∧ f.2.2 ≠ g.2.2) → (f.2.1 ≠ 0 → (reqGo bs l s R).2.num f.2.2 = R.num f.2.2) ∧ (f.2.1 = 0 → (reqGo bs l s R).2.leaf = R.leaf)
  | [], s, R, _ => ⟨fun _ => rfl, fun _ => rfl⟩
  | g :: l, s, R, h => by
    obtain ⟨hg, hne⟩ := h g (by simp)
    have ih := fun s R => reqGo_far bs f hf l s R (fun k hk => h k (List.mem_cons_of_mem _ hk))
    unfold reqGo
    split
    · rename_i h0
      refine ⟨fun hf0 => ((ih _ _).1 hf0).trans ?_, fun hf0 => ?_⟩
      · rfl
      · exact absurd (((fld_zero hf).1 hf0).trans ((fld_zero hg).1 h0).symm) hne
    · refine ⟨fun hf0 => ((ih _ _).1 hf0).trans (put_far R f g hf hg hne _), fun hf0 => ((ih _ _).2 hf0).trans (put_tok R _ _).2.2.2.1⟩

theorem rBytes_ok (bs : List Nat) (s : RSt) (m : Nat) (hs : s.1 ≤ bs.length) (hb : ∀ x ∈ bs, x < 256) (h : (rBytes bs s m).1.2 = none) :
    s.2 = none ∧ (rBytes bs s m).2.length ≤ m ∧ (rBytes bs s m).1 = (s.1 + 2 + (rBytes bs s m).2.length, none) ∧ s.1 + 2 + (rBytes bs s m).2.length ≤ bs.length ∧ bs.take (s.1 + 2 + (rBytes bs s m).2.length) = bs.take s.1 ++ txt (rBytes bs s m).2 := by
  have hlen := rBytes_len bs s m hb
  unfold rBytes at h hlen ⊢
  have h1 : (rNum bs s 2).1.2 = none := by
    cases hs : (rNum bs s 2).1.2 with
    | none => rfl
    | some y =>
      rw [if_neg (by rw [hs]; simp), rTake_ref _ _ _ y hs, hs] at h
      cases h
  have h2 : ¬ (m < (rNum bs s 2).2) := fun hm => by
    rw [if_pos ⟨h1, hm⟩, rTake_ref _ _ _ _ rfl] at h
    cases h
  rw [if_neg (fun e => h2 e.2)] at h hlen ⊢
  obtain ⟨a1, a2, a3, a4⟩ := rNum_ok bs s 2 hs hb h1
  rw [a2] at h hlen ⊢
  obtain ⟨b1, b2, b3, b4, b5⟩ := rTake_ok bs (s.1 + 2, none) (rNum bs s 2).2 a3 h
  rw [b4]
  rw [b4] at hlen
  refine ⟨a1, by omega, b2, b3, ?_⟩
  simp only at b5
  rw [b5, a4, txt_eq _ (by rw [b4]; exact hlen), b4]
  simp [List.append_assoc]

theorem reqGo_ok (bs : List Nat) (hb : ∀ x ∈ bs, x < 256) : ∀ (l : List Fld) (s : RSt) (R : Req), (∀ f ∈ l, IsFld f) → l.Pairwise (fun f g => f.2.2 ≠ g.2.2) → s.1 ≤ bs.length → (reqGo bs l s R).1.2 = none →
    s.2 = none ∧ (reqGo bs l s R).1.1 ≤ bs.length ∧ bs.take (reqGo bs l s R).1.1 = bs.take s.1 ++ l.flatMap (fldB (reqGo bs l s R).2) ∧ ∀ f ∈ l, fldWhy (reqGo bs l s R).2 f = 0
  | [], s, R, _, _, hs, h => ⟨h, hs, by simp [reqGo], fun f hf => by cases hf⟩
  | f :: l, s, R, hl, hp, hs, h => by
    obtain ⟨hp1, hp2⟩ := List.pairwise_cons.1 hp
    have hf := hl f (by simp)
    have hl' := fun g hg => hl g (List.mem_cons_of_mem _ hg)
    unfold reqGo at h ⊢
    split at h
    · rename_i h0
      rw [if_pos h0]
      have h1 : (rBytes bs s 256).1.2 = none := by
        cases hs : (rBytes bs s 256).1.2 with
        | none => rfl
        | some y =>
          rw [reqGo_ref bs l _ _ y hs, hs] at h
          cases h
      obtain ⟨a1, a2, a3, a4, a5⟩ := rBytes_ok bs s 256 hs hb h1
      have ih := reqGo_ok bs hb l (rBytes bs s 256).1 { R with leaf := (rBytes bs s 256).2 } hl' hp2 (by rw [a3]; exact a4) h
      have hfar := (reqGo_far bs f hf l (rBytes bs s 256).1 { R with leaf := (rBytes bs s 256).2 } (fun g hg => ⟨hl' g hg, hp1 g hg⟩)).2 h0
      obtain ⟨X, hX⟩ : ∃ X, reqGo bs l (rBytes bs s 256).1 { R with leaf := (rBytes bs s 256).2 } = X := ⟨_, rfl⟩
      rw [hX] at ih hfar ⊢
      simp only at hfar
      obtain ⟨b1, b2, b3, b4⟩ := ih
      have hfb : fldB X.2 f = txt (rBytes bs s 256).2 := by
        unfold fldB
        rw [if_neg (by omega), hfar]
      refine ⟨a1, b2, ?_, fun g hg => ?_⟩
      · rw [b3, a3]
        simp only
        rw [a5, List.flatMap_cons, hfb, List.append_assoc]
      · rcases List.mem_cons.1 hg with rfl | hg
        · unfold fldWhy
          rw [if_neg (by omega), if_neg (by omega), hfar, if_neg (by omega)]
        · exact b4 g hg
    · rename_i h0
      rw [if_neg h0]
      have h1 : (rNum bs s f.1).1.2 = none := by
        cases hs : (rNum bs s f.1).1.2 with
        | none => rfl
        | some y =>
          rw [reqGo_ref bs l _ _ y hs, hs] at h
          cases h
      obtain ⟨a1, a2, a3, a4⟩ := rNum_ok bs s f.1 hs hb h1
      have hlt := rNum_lt bs s f.1 hb
      have ih := reqGo_ok bs hb l (rNum bs s f.1).1 (R.put f.2.2 (rNum bs s f.1).2) hl' hp2 (by rw [a2]; exact a3) h
      have hfar := (reqGo_far bs f hf l (rNum bs s f.1).1 (R.put f.2.2 (rNum bs s f.1).2) (fun g hg => ⟨hl' g hg, hp1 g hg⟩)).1 h0
      rw [put_num R f hf h0] at hfar
      obtain ⟨X, hX⟩ : ∃ X, reqGo bs l (rNum bs s f.1).1 (R.put f.2.2 (rNum bs s f.1).2) = X := ⟨_, rfl⟩
      rw [hX] at ih hfar ⊢
      obtain ⟨b1, b2, b3, b4⟩ := ih
      have hk : f.2.1 = 1 ∨ f.2.1 = 2 ∨ f.2.1 = 3 := by
        rcases isFld_kinds hf with h | h | h | h
        · exact .inl h.1
        · exact .inr (.inl h.1)
        · exact .inr (.inr h.1)
        · exact absurd (by rw [h]) h0
      have hfb : fldB X.2 f = be (rNum bs s f.1).2 f.1 := by
        unfold fldB
        rw [if_pos hk, hfar, Int.toNat_natCast]
      refine ⟨a1, b2, ?_, fun g hg => ?_⟩
      · rw [b3, a2]
        simp only
        rw [a4, List.flatMap_cons, hfb, List.append_assoc]
      · rcases List.mem_cons.1 hg with rfl | hg
        · unfold fldWhy
          split
          · rename_i hk1
            have e1 : g.1 = 1 := by
              rcases isFld_kinds hf with h | h | h | h
              · exact h.2
              · omega
              · omega
              · rw [h] at hk1; cases hk1
            rw [e1] at hlt hfar
            rw [hfar, if_pos (by omega)]
          · rename_i hk1
            rw [if_pos (by omega)]
        · exact b4 g hg

theorem reqGo_op (bs : List Nat) : ∀ (l : List Fld) (s : RSt) (R : Req), (reqGo bs l s R).2.op = R.op ∧ (reqGo bs l s R).2.tid = R.tid ∧ (reqGo bs l s R).2.cavs = R.cavs ∧ (reqGo bs l s R).2.tag = R.tag
  | [], s, R => ⟨rfl, rfl, rfl, rfl⟩
  | f :: l, s, R => by
    unfold reqGo
    split
    · exact reqGo_op bs l _ _
    · obtain ⟨a, b, c, -, d⟩ := put_tok R f.2.2 (rNum bs s f.1).2
      have ih := reqGo_op bs l (rNum bs s f.1).1 (R.put f.2.2 (rNum bs s f.1).2)
      rw [a, b, c, d] at ih
      exact ih

theorem fields_apart (op : Int) (l : List Fld) (hl : fieldsOf op = some l) : l.Pairwise (fun f g => f.2.2 ≠ g.2.2) := by
  obtain ⟨h1, h2, -⟩ := fields_len op l hl
  rcases opCases h1 h2 with e | e | e | e | e | e | e | e | e | e | e | e <;> rw [e] at hl <;> simp [fieldsOf] at hl <;> subst hl <;> simp

/-- What is decoded is encoded to its bytes. -/
theorem back_again (bs : List Nat) (S : Req) (hb : ∀ x ∈ bs, x < 256) (h : reqDec bs = (none, S)) : encRes S = (0, bs) := by
  unfold reqDec at h
  cases hE : rEnd bs (reqDecS bs).1 with
  | some y => rw [hE] at h; cases h
  | none =>
    rw [hE] at h
    injection h with _ hS
    have hle := reqDecS_le bs
    have hn : (reqDecS bs).1.2 = none ∧ (reqDecS bs).1.1 = bs.length := by
      unfold rEnd at hE
      split at hE
      · cases hE
      · rename_i hs
        split at hE
        · cases hE
        · exact ⟨hs, by omega⟩
    obtain ⟨hn, hend⟩ := hn
    cases hl : fieldsOf ((rNum bs (reqTok bs) 1).2 : Int) with
    | none =>
      unfold reqDecS at hn
      rw [hl] at hn
      exact absurd hn (rRefuse_some _ _ _)
    | some l =>
      have hD : reqDecS bs = reqGo bs l (rNum bs (reqTok bs) 1).1 (req0 (reqT bs) ((rNum bs (reqTok bs) 1).2 : Int)) := by
        unfold reqDecS
        rw [hl]
      rw [hD] at hn hend hS
      have hnum : (rNum bs (reqTok bs) 1).1.2 = none := by
        cases hs : (rNum bs (reqTok bs) 1).1.2 with
        | none => rfl
        | some y =>
          rw [reqGo_ref bs l _ _ y hs, hs] at hn
          cases hn
      have htok : (reqTok bs).2 = none := rNum_ne bs _ _ hnum
      have hraw : (tokDec (rBytes bs (0, none) 77).2).1 = none ∧ reqTok bs = (rBytes bs (0, none) 77).1 := by
        unfold reqTok at htok ⊢
        split at htok
        · rename_i hz
          exact ⟨hz, by rw [if_pos hz]⟩
        · exact absurd htok (rRefuse_some _ _ _)
      obtain ⟨htd, hrt⟩ := hraw
      rw [hrt] at htok
      obtain ⟨-, c2, c3, c4, c5⟩ := rBytes_ok bs (0, none) 77 (Nat.zero_le _) hb htok
      obtain ⟨d1, d2, d3, d4⟩ := rNum_ok bs (reqTok bs) 1 (by rw [hrt, c3]; exact c4) hb hnum
      obtain ⟨-, e2, e3, e4⟩ := reqGo_ok bs hb l _ (req0 (reqT bs) ((rNum bs (reqTok bs) 1).2 : Int)) (fun f hf => isFld _ l hl f hf) (fields_apart _ l hl) (by rw [d2]; exact d3) hn
      obtain ⟨f1, f2, f3, f4⟩ := reqGo_op bs l (rNum bs (reqTok bs) 1).1 (req0 (reqT bs) ((rNum bs (reqTok bs) 1).2 : Int))
      rw [hS] at e3 e4 f1 f2 f3 f4
      rw [hend, List.take_of_length_le (Nat.le_refl _), d2, d4, hrt, c3] at e3
      simp only at e3
      rw [show (0 + 2 + (rBytes bs (0, none) 77).2.length) = 0 + 2 + (rBytes bs (0, none) 77).2.length from rfl, c5] at e3
      simp only [List.take_zero, List.nil_append] at e3
      have f1' : S.op = ((rNum bs (reqTok bs) 1).2 : Int) := f1
      have hl' : fieldsOf S.op = some l := by rw [f1']; exact hl
      have hbody := bodyRes_ok S l hl' e4
      obtain ⟨id, cl, tag, g1, g2, g3, g4, g5, g6, g7⟩ := tokDec_ok (rBytes bs (0, none) 77).2 (rBytes_lt bs (0, none) 77 hb) htd
      have hT : reqT bs = (id, cl, tag) := by
        unfold reqT
        rw [g1]
      have k1 : S.tid = id := by rw [f2, hT]; rfl
      have k2 : S.cavs = cl := by rw [f3, hT]; rfl
      have k3 : S.tag = tag := by rw [f4, hT]; rfl
      unfold encRes
      rw [hbody, k1, k2, k3, g7, if_pos rfl, if_pos rfl]
      simp only
      congr 1
      rw [f1', Int.toNat_natCast, hrt, c3]
      exact ((e3.trans (List.append_assoc _ _ _))).symm

end Go.Proofs.YtbkdccamimakoaaDoor
