/-
  Responses: what is encoded is decoded, what is decoded is encoded; plain.
-/
import Derived.Test.YtbkdccamimakoaaDoorRspSpec
import Derived.Test.YtbkdccamimakoaaDoorBodyP
import Derived.Test.YtbkdccamimakoaaDoorBackQ
namespace Go.Proofs.YtbkdccamimakoaaDoor
open Go.RowKit
set_option linter.unusedVariables false
set_option maxRecDepth 100000

theorem rTake_drop (bs x rest : List Nat) (p k : Nat) (hk : x.length = k) (h : bs.drop p = x ++ rest) (hp : p ≤ bs.length) : rTake bs (p, none) k = ((p + k, none), x) ∧ bs.drop (p + k) = rest ∧ p + k ≤ bs.length := by
  have hl : bs.length - p = k + rest.length := by
    have := congrArg List.length h
    simp only [List.length_drop, List.length_append, hk] at this
    exact this
  refine ⟨?_, ?_, by omega⟩
  · unfold rTake
    simp only
    rw [if_pos (by omega), h, ← hk, List.take_left' rfl]
  · rw [← List.drop_drop, h, ← hk, List.drop_left' rfl]

theorem rNum_drop (bs rest : List Nat) (p n k : Nat) (hn : n < 256 ^ k) (h : bs.drop p = be n k ++ rest) (hp : p ≤ bs.length) : rNum bs (p, none) k = ((p + k, none), n) ∧ bs.drop (p + k) = rest ∧ p + k ≤ bs.length := by
  obtain ⟨h1, h2, h3⟩ := rTake_drop bs (be n k) rest p k (be_length n k) h hp
  refine ⟨?_, h2, h3⟩
  unfold rNum
  rw [h1]
  simp only
  rw [num_be, Nat.mod_eq_of_lt hn]

theorem rDig_drop (bs x rest : List Nat) (p : Nat) (hx : x.length = 32) (h : bs.drop p = x ++ rest) (hp : p ≤ bs.length) : rDig bs (p, none) = ((p + 32, none), x) ∧ bs.drop (p + 32) = rest ∧ p + 32 ≤ bs.length := by
  obtain ⟨h1, h2, h3⟩ := rTake_drop bs x rest p 32 hx h hp
  refine ⟨?_, h2, h3⟩
  unfold rDig
  rw [h1]
  simp [hx]

theorem rBytes_drop (bs x rest : List Nat) (p m : Nat) (hm : x.length ≤ m) (hx : x.length ≤ 65535) (h : bs.drop p = txt x ++ rest) (hp : p ≤ bs.length) : rBytes bs (p, none) m = ((p + 2 + x.length, none), x) ∧ bs.drop (p + 2 + x.length) = rest ∧ p + 2 + x.length ≤ bs.length := by
  rw [txt_eq x hx, List.append_assoc] at h
  obtain ⟨h1, h2, h3⟩ := rNum_drop bs (x ++ rest) p x.length 2 (Nat.lt_of_lt_of_eq (show x.length < 65536 by omega) (by decide)) h hp
  obtain ⟨k1, k2, k3⟩ := rTake_drop bs x rest (p + 2) x.length rfl h2 h3
  refine ⟨?_, k2, k3⟩
  unfold rBytes
  rw [h1]
  simp only
  rw [if_neg (fun e => by omega)]
  exact k1

theorem digGo_drop (bs : List Nat) : ∀ (l acc : List (List Nat)) (rest : List Nat) (p : Nat), (∀ d ∈ l, d.length = 32) → bs.drop p = l.flatten ++ rest → p ≤ bs.length →
    ∃ q, digGo bs l.length (p, none) acc = ((q, none), acc ++ l) ∧ bs.drop q = rest ∧ q ≤ bs.length
  | [], acc, rest, p, _, h, hp => ⟨p, by simp [digGo], by simpa using h, hp⟩
  | d :: l, acc, rest, p, hl, h, hp => by
    rw [List.flatten_cons, List.append_assoc] at h
    obtain ⟨h1, h2, h3⟩ := rDig_drop bs d (l.flatten ++ rest) p (hl d (by simp)) h hp
    obtain ⟨q, k1, k2, k3⟩ := digGo_drop bs l (acc ++ [d]) rest (p + 32) (fun x hx => hl x (List.mem_cons_of_mem _ hx)) h2 h3
    refine ⟨q, ?_, k2, k3⟩
    rw [List.length_cons]
    unfold digGo
    rw [h1]
    simp only
    rw [k1]
    simp

theorem rHead_drop (bs rest : List Nat) (h : Hd) (hok : h.Ok) (h0 : h ≠ Hd.zero) (t1 : 0 ≤ h.tree ∧ h.tree ≤ 255) (t2 : 0 ≤ h.epoch ∧ h.epoch ≤ 2147483647) (p : Nat) (hd : bs.drop p = hdB h ++ rest) (hp : p ≤ bs.length) :
    ∃ q, rHead bs (p, none) = ((q, none), h) ∧ bs.drop q = rest ∧ q ≤ bs.length := by
  unfold hdB at hd
  simp only [List.append_assoc] at hd
  obtain ⟨e1, hd, hp⟩ := rNum_drop bs _ p h.tree.toNat 1 (by omega) hd hp
  have e1 : rh1 bs (p, none) = ((p + 1, none), h.tree.toNat) := e1
  obtain ⟨e2, hd, hp⟩ := rNum_drop bs _ (p + 1) h.epoch.toNat 4 (Nat.lt_of_lt_of_eq (show h.epoch.toNat < 4294967296 by omega) (by decide)) hd hp
  have e2 : rh2 bs (p, none) = ((p + 1 + 4, none), h.epoch.toNat) := by unfold rh2; rw [e1]; exact e2
  have e3 : rh3 bs (p, none) = (p + 1 + 4, none) := by
    unfold rh3
    rw [e2]
    simp only
    rw [if_neg (by omega)]
  obtain ⟨e4, hd, hp⟩ := rNum_drop bs _ (p + 1 + 4) h.size 8 (Nat.lt_of_lt_of_eq hok.size (by decide)) hd hp
  have e4 : rh4 bs (p, none) = ((p + 1 + 4 + 8, none), h.size) := by unfold rh4; rw [e3]; exact e4
  obtain ⟨e5, hd, hp⟩ := rNum_drop bs _ (p + 1 + 4 + 8) h.clock 8 (Nat.lt_of_lt_of_eq hok.clock (by decide)) hd hp
  have e5 : rh5 bs (p, none) = ((p + 1 + 4 + 8 + 8, none), h.clock) := by unfold rh5; rw [e4]; exact e5
  obtain ⟨e6, hd, hp⟩ := rDig_drop bs _ _ (p + 1 + 4 + 8 + 8) hok.rootl hd hp
  have e6 : rh6 bs (p, none) = ((p + 1 + 4 + 8 + 8 + 32, none), h.root) := by unfold rh6; rw [e5]; exact e6
  obtain ⟨e7, hd, hp⟩ := rDig_drop bs _ _ (p + 1 + 4 + 8 + 8 + 32) hok.tagl hd hp
  have e7 : rh7 bs (p, none) = ((p + 1 + 4 + 8 + 8 + 32 + 32, none), h.tag) := by unfold rh7; rw [e6]; exact e7
  have eH : rhH bs (p, none) = h := by
    unfold rhH
    rw [e1, e2, e4, e5, e6, e7]
    obtain ⟨a, b, c, d, e, f⟩ := h
    simp only at t1 t2 ⊢
    congr 1 <;> omega
  refine ⟨_, ?_, hd, hp⟩
  unfold rHead
  rw [eH, if_neg h0, e7]

theorem tokR_len (t : Tok) (ht : t.Ok) : (tokR t).2.length ≤ 60 := tokRes_len _ _ _ ht.2.2.1

theorem rTokB_drop (bs rest : List Nat) (t : Tok) (ht : t.Ok) (h0 : t ≠ zeroTok) (hr : (tokR t).1 = 0) (p : Nat) (hd : bs.drop p = txt (tokR t).2 ++ rest) (hp : p ≤ bs.length) :
    ∃ q, rTokB bs (p, none) = ((q, none), t) ∧ bs.drop q = rest ∧ q ≤ bs.length := by
  have hl := tokR_len t ht
  obtain ⟨e1, hd, hp⟩ := rBytes_drop bs _ rest p 65536 (by omega) (by omega) hd hp
  have e2 : tokDec (tokR t).2 = (none, t) := (tokDec_res t.1 t.2.1 t.2.2 ht.1 ht.2.1 ht.2.2.1 hr).1
  refine ⟨_, ?_, hd, hp⟩
  unfold rTokB
  rw [e1]
  simp only
  rw [e2]
  simp [h0]

theorem rEnd_none (bs : List Nat) (q : Nat) (h : bs.drop q = []) : rEnd bs (q, none) = none := by
  unfold rEnd
  simp only
  have := congrArg List.length h
  simp only [List.length_drop, List.length_nil] at this
  rw [if_neg (by omega)]

theorem flags_lt (R : Rsp) : flagsOf R ≤ 3 := by unfold flagsOf; split <;> split <;> omega

/-- What is encoded is decoded. -/
theorem ans_there (R : Rsp) (x : List Nat) (hR : R.Ok) (h : ansRes R = (0, x)) : rspDec x = (none, R) := by
  unfold ansRes at h
  split at h
  · cases h
  rename_i h1
  split at h
  · cases h
  rename_i h2
  split at h
  case isFalse => cases h
  rename_i h3
  obtain ⟨hf, ht⟩ := h3
  injection h with _ hx
  subst hx
  unfold Rsp.fits at hf
  simp only [Bool.and_eq_true, decide_eq_true_eq] at hf
  obtain ⟨⟨f1, f2⟩, f3⟩ := hf
  have hn : R.hashes.length ≤ 255 := by omega
  obtain ⟨X, hX⟩ : ∃ X, ansB R = X := ⟨_, rfl⟩
  rw [hX]
  have hp0 : 0 ≤ X.length := Nat.zero_le _
  have hd1 : X.drop 0 = be R.why.toNat 1 ++ (be R.n 8 ++ (txt R.bytes ++ (be R.hashes.length 1 ++ (R.hashes.flatten ++ (be (flagsOf R) 1 ++ ((if R.hd = Hd.zero then [] else hdB R.hd) ++ (if R.tok = zeroTok then [] else txt (tokR R.tok).2))))))) := by
    rw [List.drop_zero, ← hX]
    rfl
  clear hX
  obtain ⟨e1, hd, hp⟩ := rNum_drop X _ 0 R.why.toNat 1 (by omega) hd1 hp0
  clear hd1 hp0
  have e1 : rp1 X = ((0 + 1, none), R.why.toNat) := e1
  obtain ⟨e2, hd, hp⟩ := rNum_drop X _ (0 + 1) R.n 8 (Nat.lt_of_lt_of_eq hR.n (by decide)) hd hp
  have e2 : rp2 X = ((0 + 1 + 8, none), R.n) := by unfold rp2; rw [e1]; exact e2
  obtain ⟨e3, hd, hp⟩ := rBytes_drop X R.bytes _ (0 + 1 + 8) 65536 (by omega) (by omega) hd hp
  have e3 : rp3 X = ((0 + 1 + 8 + 2 + R.bytes.length, none), R.bytes) := by unfold rp3; rw [e2]; exact e3
  obtain ⟨p3, hp3⟩ : ∃ p, 0 + 1 + 8 + 2 + R.bytes.length = p := ⟨_, rfl⟩
  rw [hp3] at e3 hd hp
  obtain ⟨e4, hd, hp⟩ := rNum_drop X _ p3 R.hashes.length 1 (by omega) hd hp
  have e4 : rp4 X = ((p3 + 1, none), R.hashes.length) := by unfold rp4; rw [e3]; exact e4
  obtain ⟨p5, e5, hd, hp⟩ := digGo_drop X R.hashes [] _ (p3 + 1) (fun d hd => (hR.hashes d hd).1) hd hp
  have e5 : rp5 X = ((p5, none), R.hashes) := by unfold rp5; rw [e4]; exact e5
  have hfl := flags_lt R
  obtain ⟨e6, hd, hp⟩ := rNum_drop X _ p5 (flagsOf R) 1 (by omega) hd hp
  have e6 : rp6 X = ((p5 + 1, none), flagsOf R) := by unfold rp6; rw [e5]; exact e6
  have e7 : rp7 X = (p5 + 1, none) := by unfold rp7; rw [e6]; simp only; rw [if_neg (by omega)]
  have h8 : ∃ q, rp8 X = ((q, none), R.hd) ∧ X.drop q = (if R.tok = zeroTok then [] else txt (tokR R.tok).2) ∧ q ≤ X.length := by
    unfold rp8
    rw [e6, e7]
    simp only
    by_cases hz : R.hd = Hd.zero
    · rw [if_pos hz, List.nil_append] at hd
      rw [if_neg (by unfold flagsOf; rw [if_pos hz]; split <;> omega)]
      exact ⟨_, by rw [hz], hd, hp⟩
    · rw [if_neg hz] at hd
      rw [if_pos (by unfold flagsOf; rw [if_neg hz]; split <;> omega)]
      exact rHead_drop X _ R.hd hR.hd hz f2 f3 (p5 + 1) hd hp
  obtain ⟨p8, e8, hd, hp⟩ := h8
  have h9 : ∃ q, rp9 X = ((q, none), R.tok) ∧ X.drop q = [] ∧ q ≤ X.length := by
    unfold rp9
    rw [e6, e8]
    simp only
    by_cases hz : R.tok = zeroTok
    · rw [if_pos hz] at hd
      rw [if_neg (by unfold flagsOf; rw [if_pos hz]; split <;> omega)]
      exact ⟨_, by rw [hz], hd, hp⟩
    · rw [if_neg hz, ← List.append_nil (txt _)] at hd
      rw [if_pos (by unfold flagsOf; rw [if_neg hz]; split <;> omega)]
      exact rTokB_drop X [] R.tok hR.tok hz ht p8 hd hp
  obtain ⟨p9, e9, hd, hp⟩ := h9
  unfold rspDec
  rw [e9]
  simp only
  rw [rEnd_none X p9 hd]
  simp only
  congr 1
  unfold rpR
  rw [e1, e2, e3, e5, e8, e9]
  obtain ⟨a, b, c, d, e, f⟩ := R
  simp only at f1 ⊢
  congr 1
  omega

/-! ## And back -/

theorem rTake_okd (bs : List Nat) (s : RSt) (k : Nat) (h : (rTake bs s k).1.2 = none) :
    s.2 = none ∧ (rTake bs s k).1 = (s.1 + k, none) ∧ (rTake bs s k).2.length = k ∧ bs.drop s.1 = (rTake bs s k).2 ++ bs.drop (s.1 + k) := by
  unfold rTake at h ⊢
  split at h
  · rename_i x hx
    rw [hx] at h
    cases h
  · rename_i hx
    split at h
    · rename_i hk
      rw [if_pos hk]
      refine ⟨hx, rfl, by simp; omega, ?_⟩
      rw [← List.drop_drop]
      exact (List.take_append_drop k _).symm
    · cases h

theorem rNum_okd (bs : List Nat) (s : RSt) (k : Nat) (hb : ∀ x ∈ bs, x < 256) (h : (rNum bs s k).1.2 = none) :
    s.2 = none ∧ (rNum bs s k).1 = (s.1 + k, none) ∧ bs.drop s.1 = be (rNum bs s k).2 k ++ bs.drop (s.1 + k) := by
  obtain ⟨h1, h2, h3, h4⟩ := rTake_okd bs s k h
  refine ⟨h1, h2, ?_⟩
  have := be_num (rTake bs s k).2 (rTake_lt bs s k hb)
  rw [h3] at this
  show _ = be (num (rTake bs s k).2) k ++ _
  rw [this]
  exact h4

theorem rDig_okd (bs : List Nat) (s : RSt) (h : (rDig bs s).1.2 = none) : s.2 = none ∧ (rDig bs s).1 = (s.1 + 32, none) ∧ bs.drop s.1 = (rDig bs s).2 ++ bs.drop (s.1 + 32) := by
  obtain ⟨h1, h2, h3, h4⟩ := rTake_okd bs s 32 h
  refine ⟨h1, h2, ?_⟩
  unfold rDig
  simp only
  rw [h3, Nat.sub_self, List.replicate_zero, List.append_nil]
  exact h4

theorem rBytes_okd (bs : List Nat) (s : RSt) (m : Nat) (hb : ∀ x ∈ bs, x < 256) (h : (rBytes bs s m).1.2 = none) :
    s.2 = none ∧ (rBytes bs s m).1 = (s.1 + 2 + (rBytes bs s m).2.length, none) ∧ bs.drop s.1 = txt (rBytes bs s m).2 ++ bs.drop (s.1 + 2 + (rBytes bs s m).2.length) := by
  have hlen := rBytes_len bs s m hb
  unfold rBytes at h hlen ⊢
  have h1 : (rNum bs s 2).1.2 = none := by
    cases hs : (rNum bs s 2).1.2 with
    | none => rfl
    | some y =>
      rw [if_neg (by rw [hs]; simp), rTake_ref _ _ _ y hs, hs] at h
      cases h
  have h2 : ¬ (m < (rNum bs s 2).2) := fun hm => by
    rw [if_pos ⟨h1, hm⟩, rTake_ref _ _ _ _ rfl] at h
    cases h
  rw [if_neg (fun e => h2 e.2)] at h hlen ⊢
  obtain ⟨a1, a2, a3⟩ := rNum_okd bs s 2 hb h1
  rw [a2] at h hlen ⊢
  obtain ⟨b1, b2, b3, b4⟩ := rTake_okd bs (s.1 + 2, none) (rNum bs s 2).2 h
  rw [b3] at hlen ⊢
  refine ⟨a1, b2, ?_⟩
  simp only at b4
  rw [a3, b4, txt_eq _ (by rw [b3]; exact hlen), b3, List.append_assoc]

theorem digGo_okd (bs : List Nat) (hb : ∀ x ∈ bs, x < 256) : ∀ (k : Nat) (s : RSt) (acc : List (List Nat)), (digGo bs k s acc).1.2 = none →
    s.2 = none ∧ ∃ l, (digGo bs k s acc).2 = acc ++ l ∧ l.length = k ∧ bs.drop s.1 = l.flatten ++ bs.drop (digGo bs k s acc).1.1
  | 0, s, acc, h => ⟨h, [], by simp [digGo]⟩
  | k + 1, s, acc, h => by
    unfold digGo at h ⊢
    obtain ⟨h1, l, h2, h3, h4⟩ := digGo_okd bs hb k _ _ h
    obtain ⟨k1, k2, k3⟩ := rDig_okd bs s h1
    refine ⟨k1, (rDig bs s).2 :: l, by rw [h2]; simp, by simp [h3], ?_⟩
    rw [k3, List.flatten_cons, List.append_assoc, ← h4, k2]

theorem rHead_okd (bs : List Nat) (hb : ∀ x ∈ bs, x < 256) (s : RSt) (h : (rHead bs s).1.2 = none) :
    s.2 = none ∧ (rHead bs s).2 ≠ Hd.zero ∧ (0 ≤ (rHead bs s).2.tree ∧ (rHead bs s).2.tree ≤ 255) ∧ (0 ≤ (rHead bs s).2.epoch ∧ (rHead bs s).2.epoch ≤ 2147483647) ∧ bs.drop s.1 = hdB (rHead bs s).2 ++ bs.drop (rHead bs s).1.1 := by
  unfold rHead at h ⊢
  simp only at h ⊢
  split at h
  · exact absurd h (rRefuse_some _ _ _)
  rename_i h0
  rw [if_neg h0]
  obtain ⟨a1, a2, a3⟩ := rDig_okd bs _ h
  obtain ⟨b1, b2, b3⟩ := rDig_okd bs _ a1
  obtain ⟨c1, c2, c3⟩ := rNum_okd bs _ 8 hb b1
  obtain ⟨d1, d2, d3⟩ := rNum_okd bs _ 8 hb c1
  have h3 : (rh2 bs s).2 ≤ 2147483647 ∧ rh3 bs s = (rh2 bs s).1 := by
    unfold rh3 at d1 ⊢
    split at d1
    · exact absurd d1 (rRefuse_some _ _ _)
    · rename_i hx
      exact ⟨by omega, by rw [if_neg hx]⟩
  rw [h3.2] at d1 d2 d3
  obtain ⟨e1, e2, e3⟩ := rNum_okd bs _ 4 hb d1
  obtain ⟨f1, f2, f3⟩ := rNum_okd bs _ 1 hb e1
  have hlt := rNum_lt bs s 1 hb
  refine ⟨f1, h0, ?_, ?_, ?_⟩
  · show 0 ≤ ((rNum bs s 1).2 : Int) ∧ ((rNum bs s 1).2 : Int) ≤ 255
    omega
  · show 0 ≤ ((rh2 bs s).2 : Int) ∧ ((rh2 bs s).2 : Int) ≤ 2147483647
    omega
  · have g7 : (rh7 bs s).1 = ((rh6 bs s).1.1 + 32, none) := a2
    have g6 : (rh6 bs s).1 = ((rh5 bs s).1.1 + 32, none) := b2
    have g5 : (rh5 bs s).1 = ((rh4 bs s).1.1 + 8, none) := c2
    have g4 : (rh4 bs s).1 = ((rh2 bs s).1.1 + 8, none) := by unfold rh4; rw [h3.2]; exact d2
    have g2 : (rh2 bs s).1 = ((rh1 bs s).1.1 + 4, none) := e2
    have g1 : (rh1 bs s).1 = (s.1 + 1, none) := f2
    have k7 : bs.drop (rh6 bs s).1.1 = (rh7 bs s).2 ++ bs.drop (rh7 bs s).1.1 := by rw [g7]; exact a3
    have k6 : bs.drop (rh5 bs s).1.1 = (rh6 bs s).2 ++ bs.drop (rh6 bs s).1.1 := by rw [g6]; exact b3
    have k5 : bs.drop (rh4 bs s).1.1 = be (rh5 bs s).2 8 ++ bs.drop (rh5 bs s).1.1 := by rw [g5]; exact c3
    have k4 : bs.drop (rh2 bs s).1.1 = be (rh4 bs s).2 8 ++ bs.drop (rh4 bs s).1.1 := by rw [g4]; unfold rh4; rw [h3.2]; exact d3
    have k2 : bs.drop (rh1 bs s).1.1 = be (rh2 bs s).2 4 ++ bs.drop (rh2 bs s).1.1 := by rw [g2]; exact e3
    have k1 : bs.drop s.1 = be (rh1 bs s).2 1 ++ bs.drop (rh1 bs s).1.1 := by rw [g1]; exact f3
    rw [k1, k2, k4, k5, k6, k7]
    unfold hdB rhH
    simp only [Int.toNat_natCast, List.append_assoc]

theorem rTokB_okd (bs : List Nat) (hb : ∀ x ∈ bs, x < 256) (s : RSt) (h : (rTokB bs s).1.2 = none) :
    s.2 = none ∧ (rTokB bs s).2 ≠ zeroTok ∧ (tokR (rTokB bs s).2).1 = 0 ∧ bs.drop s.1 = txt (tokR (rTokB bs s).2).2 ++ bs.drop (rTokB bs s).1.1 := by
  unfold rTokB at h ⊢
  simp only at h ⊢
  split at h
  · rename_i h0
    rw [if_pos h0]
    obtain ⟨a1, a2, a3⟩ := rBytes_okd bs s 65536 hb h
    obtain ⟨id, l, tag, g1, -, -, -, -, -, g7⟩ := tokDec_ok _ (rBytes_lt bs s 65536 hb) h0.1
    have g8 : tokR (tokDec (rBytes bs s 65536).2).2 = (0, (rBytes bs s 65536).2) := by rw [g1]; exact g7
    refine ⟨a1, h0.2, by rw [g8], ?_⟩
    rw [g8, a2]
    exact a3
  · exact absurd h (rRefuse_some _ _ _)

theorem tokR_zero : (tokR zeroTok).1 = 0 := by decide

/-- What is decoded is encoded to its bytes. -/
theorem ans_back (bs : List Nat) (C : Rsp) (hb : ∀ x ∈ bs, x < 256) (h : rspDec bs = (none, C)) : ansRes C = (0, bs) := by
  unfold rspDec at h
  cases hE : rEnd bs (rp9 bs).1 with
  | some y => rw [hE] at h; cases h
  | none =>
    rw [hE] at h
    injection h with _ hC
    subst hC
    have hn : (rp9 bs).1.2 = none ∧ bs.drop (rp9 bs).1.1 = [] := by
      unfold rEnd at hE
      split at hE
      · cases hE
      · rename_i hs
        split at hE
        · cases hE
        · exact ⟨hs, List.drop_eq_nil_of_le (by omega)⟩
    obtain ⟨hn, hend⟩ := hn
    have h9 : (rp8 bs).1.2 = none ∧ (tokR (rp9 bs).2).1 = 0 ∧ ((rp9 bs).2 = zeroTok ↔ ¬ (rp6 bs).2 / 2 % 2 = 1) ∧ bs.drop (rp8 bs).1.1 = (if (rp9 bs).2 = zeroTok then [] else txt (tokR (rp9 bs).2).2) := by
      unfold rp9 at hn hend ⊢
      split
      · rename_i hx
        rw [if_pos hx] at hn hend
        obtain ⟨a1, a2, a3, a4⟩ := rTokB_okd bs hb _ hn
        rw [hend, List.append_nil] at a4
        exact ⟨a1, a3, ⟨fun e => absurd e a2, fun e => absurd hx e⟩, by rw [if_neg a2]; exact a4⟩
      · rename_i hx
        rw [if_neg hx] at hn hend
        exact ⟨hn, tokR_zero, ⟨fun _ => hx, fun _ => rfl⟩, by rw [if_pos rfl]; exact hend⟩
    obtain ⟨hn8, ht9, hz9, hd9⟩ := h9
    have h8 : (rp7 bs).2 = none ∧ ((rp8 bs).2 = Hd.zero ↔ ¬ (rp6 bs).2 % 2 = 1) ∧ (0 ≤ (rp8 bs).2.tree ∧ (rp8 bs).2.tree ≤ 255) ∧ (0 ≤ (rp8 bs).2.epoch ∧ (rp8 bs).2.epoch ≤ 2147483647) ∧ bs.drop (rp7 bs).1 = (if (rp8 bs).2 = Hd.zero then [] else hdB (rp8 bs).2) ++ bs.drop (rp8 bs).1.1 := by
      unfold rp8 at hn8 ⊢
      split
      · rename_i hx
        rw [if_pos hx] at hn8
        obtain ⟨a1, a2, a3, a4, a5⟩ := rHead_okd bs hb _ hn8
        exact ⟨a1, ⟨fun e => absurd e a2, fun e => absurd hx e⟩, a3, a4, by rw [if_neg a2]; exact a5⟩
      · rename_i hx
        rw [if_neg hx] at hn8
        exact ⟨hn8, ⟨fun _ => hx, fun _ => rfl⟩, ⟨Int.le_refl _, by simp [Hd.zero]⟩, ⟨Int.le_refl _, by simp [Hd.zero]⟩, by rw [if_pos rfl]; rfl⟩
    obtain ⟨hn7, hz8, t1, t2, hd8⟩ := h8
    have h7 : (rp6 bs).2 ≤ 3 ∧ rp7 bs = (rp6 bs).1 := by
      unfold rp7 at hn7 ⊢
      split at hn7
      · exact absurd hn7 (rRefuse_some _ _ _)
      · rename_i hx
        exact ⟨by omega, by rw [if_neg hx]⟩
    obtain ⟨h63, h7⟩ := h7
    rw [h7] at hn7 hd8
    obtain ⟨a1, a2, a3⟩ := rNum_okd bs _ 1 hb hn7
    obtain ⟨b1, l, b2, b3, b4⟩ := digGo_okd bs hb _ _ [] a1
    obtain ⟨c1, c2, c3⟩ := rNum_okd bs _ 1 hb b1
    obtain ⟨d1, d2, d3⟩ := rBytes_okd bs _ 65536 hb c1
    obtain ⟨e1, e2, e3⟩ := rNum_okd bs _ 8 hb d1
    obtain ⟨f1, f2, f3⟩ := rNum_okd bs _ 1 hb e1
    have hl4 := rNum_lt bs (rp3 bs).1 1 hb
    have hl1 := rNum_lt bs (0, none) 1 hb
    have hl3 := rBytes_len bs (rp2 bs).1 65536 hb
    have hH : (rp5 bs).2 = l := b2
    have hHl : (rp5 bs).2.length = (rp4 bs).2 := by rw [hH]; exact b3
    have hfl : flagsOf (rpR bs) = (rp6 bs).2 := by
      unfold flagsOf
      show (if (rp8 bs).2 = Hd.zero then 0 else 1) + (if (rp9 bs).2 = zeroTok then 0 else 2) = _
      by_cases q1 : (rp6 bs).2 % 2 = 1 <;> by_cases q2 : (rp6 bs).2 / 2 % 2 = 1
      · rw [if_neg (fun e => hz8.1 e q1), if_neg (fun e => hz9.1 e q2)]; omega
      · rw [if_neg (fun e => hz8.1 e q1), if_pos (hz9.2 q2)]; omega
      · rw [if_pos (hz8.2 q1), if_neg (fun e => hz9.1 e q2)]; omega
      · rw [if_pos (hz8.2 q1), if_pos (hz9.2 q2)]; omega
    have hlh : (rp4 bs).2 < 256 := Nat.lt_of_lt_of_eq hl4 (by decide)
    unfold ansRes
    rw [if_neg (by
      show ¬ (255 < (rp5 bs).2.length ∨ (tokR (rp9 bs).2).1 = 4)
      rw [hHl, ht9]
      omega), if_neg (by
      show ¬ 65536 ≤ (rp3 bs).2.length
      have : (rp3 bs).2.length ≤ 65535 := hl3
      omega), if_pos (by
      refine ⟨?_, ht9⟩
      unfold Rsp.fits
      simp only [Bool.and_eq_true, decide_eq_true_eq]
      refine ⟨⟨?_, t1⟩, t2⟩
      show 0 ≤ ((rNum bs (0, none) 1).2 : Int) ∧ ((rNum bs (0, none) 1).2 : Int) ≤ 255
      omega)]
    congr 1
    have g1 : (rp1 bs).1 = (0 + 1, none) := f2
    have g2 : (rp2 bs).1 = ((rp1 bs).1.1 + 8, none) := e2
    have g3 : (rp3 bs).1 = ((rp2 bs).1.1 + 2 + (rp3 bs).2.length, none) := d2
    have g4 : (rp4 bs).1 = ((rp3 bs).1.1 + 1, none) := c2
    have g6 : (rp6 bs).1 = ((rp5 bs).1.1 + 1, none) := a2
    have k6 : bs.drop (rp5 bs).1.1 = be (rp6 bs).2 1 ++ bs.drop (rp6 bs).1.1 := by rw [g6]; exact a3
    have k5 : bs.drop (rp4 bs).1.1 = (rp5 bs).2.flatten ++ bs.drop (rp5 bs).1.1 := by rw [hH]; exact b4
    have k4 : bs.drop (rp3 bs).1.1 = be (rp4 bs).2 1 ++ bs.drop (rp4 bs).1.1 := by rw [g4]; exact c3
    have k3 : bs.drop (rp2 bs).1.1 = txt (rp3 bs).2 ++ bs.drop (rp3 bs).1.1 := by rw [g3]; exact d3
    have k2 : bs.drop (rp1 bs).1.1 = be (rp2 bs).2 8 ++ bs.drop (rp2 bs).1.1 := by rw [g2]; exact e3
    have k1 : bs = be (rp1 bs).2 1 ++ bs.drop (rp1 bs).1.1 := by rw [g1]; exact f3
    unfold ansB
    rw [hfl]
    show be (((rp1 bs).2 : Int)).toNat 1 ++ (be (rp2 bs).2 8 ++ (txt (rp3 bs).2 ++ (be (rp5 bs).2.length 1 ++ ((rp5 bs).2.flatten ++ (be (rp6 bs).2 1 ++ ((if (rp8 bs).2 = Hd.zero then [] else hdB (rp8 bs).2) ++ (if (rp9 bs).2 = zeroTok then [] else txt (tokR (rp9 bs).2).2))))))) = bs
    rw [hHl, Int.toNat_natCast, ← hd9, ← hd8, ← k6, ← k5, ← k4, ← k3, ← k2, ← k1]

end Go.Proofs.YtbkdccamimakoaaDoor
