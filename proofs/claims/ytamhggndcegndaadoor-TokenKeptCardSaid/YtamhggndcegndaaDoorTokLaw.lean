/-
  Tokens as bytes and back: plain laws, no program.
-/
import Derived.Test.YtamhggndcegndaaDoorRDecode
namespace Go.Proofs.YtamhggndcegndaaDoor
open Go.RowKit
set_option linter.unusedVariables false
set_option maxRecDepth 100000

theorem num_be (n : Nat) : ∀ k, num (be n k) = n % 256 ^ k
  | 0 => by simp [be, num]; omega
  | k + 1 => by
    have e : be n (k + 1) = be (n / 256) k ++ [n % 256] := by
      unfold be
      rw [List.range_succ, List.map_append]
      congr 1
      · refine List.map_congr_left fun j hj => ?_
        have hj' := List.mem_range.1 hj
        unfold byteAt
        rw [show k + 1 - 1 - j = (k - 1 - j) + 1 by omega, Nat.pow_succ, Nat.mul_comm, Nat.div_div_eq_div_mul]
      · simp [byteAt]
    rw [e, num_append, num_be (n / 256) k, Nat.pow_succ, Nat.mul_comm (256 ^ k) 256, Nat.mod_mul]
    omega

theorem be_num : ∀ (l : List Nat), (∀ x ∈ l, x < 256) → be (num l) l.length = l := by
  intro l hl
  have key : ∀ k, k ≤ l.length → be (num (l.take k)) k = l.take k := by
    intro k
    induction k with
    | zero => intro _; simp [be]
    | succ k ih =>
      intro hk
      have hk' : k < l.length := by omega
      have hx := hl _ (List.getElem_mem hk')
      rw [List.take_add_one, List.getElem?_eq_getElem hk', Option.toList_some, num_append]
      have e : ∀ n x, x < 256 → be (n * 256 + x) (k + 1) = be n k ++ [x] := by
        intro n x hx
        unfold be
        rw [List.range_succ, List.map_append]
        congr 1
        · refine List.map_congr_left fun j hj => ?_
          have hj' := List.mem_range.1 hj
          unfold byteAt
          rw [show k + 1 - 1 - j = (k - 1 - j) + 1 by omega, Nat.pow_succ, Nat.mul_comm (256 ^ _) 256, ← Nat.div_div_eq_div_mul]
          congr 2
          omega
        · simp [byteAt]
          omega
      rw [e _ _ hx, ih (by omega)]
  have := key l.length (Nat.le_refl _)
  simpa using this

theorem rTake_at (pre x rest : List Nat) (k : Nat) (hk : x.length = k) : rTake (pre ++ (x ++ rest)) (pre.length, none) k = ((pre.length + k, none), x) := by
  unfold rTake
  simp only
  rw [if_pos (by simp; omega)]
  congr 1
  rw [List.drop_left' rfl, ← hk, List.take_left' rfl]

theorem rNum_at (pre rest : List Nat) (n k : Nat) (hn : n < 256 ^ k) : rNum (pre ++ (be n k ++ rest)) (pre.length, none) k = ((pre.length + k, none), n) := by
  unfold rNum
  rw [rTake_at pre (be n k) rest k (be_length n k)]
  simp only
  rw [num_be, Nat.mod_eq_of_lt hn]

theorem cavb_cons (c : Int × Nat) (l : List (Int × Nat)) : cavb (c :: l) = be c.1.toNat 1 ++ (be c.2 4 ++ cavb l) := by simp [cavb]

theorem decCavs_at : ∀ (l acc : List (Int × Nat)) (pre rest : List Nat), (∀ c ∈ l, kindB c.1 = true ∧ c.2 < 4294967296) → decCavs (pre ++ (cavb l ++ rest)) l.length (pre.length, none) acc = ((pre.length + (cavb l).length, none), acc ++ l)
  | [], acc, pre, rest, _ => by simp [decCavs, cavb]
  | c :: l, acc, pre, rest, h => by
    obtain ⟨hk, hn⟩ := h c (by simp)
    have hb := kindB_bd hk
    have hk1 : c.1.toNat < 256 ^ 1 := by omega
    have hn4 : c.2 < 256 ^ 4 := Nat.lt_of_lt_of_eq hn (by decide)
    have e1 : rNum (pre ++ (cavb (c :: l) ++ rest)) (pre.length, none) 1 = ((pre.length + 1, none), c.1.toNat) := by
      have := rNum_at pre ((be c.2 4 ++ cavb l) ++ rest) c.1.toNat 1 hk1
      rw [cavb_cons]
      simpa [List.append_assoc] using this
    have e2 : rNum (pre ++ (cavb (c :: l) ++ rest)) (pre.length + 1, none) 4 = ((pre.length + 1 + 4, none), c.2) := by
      have := rNum_at (pre ++ be c.1.toNat 1) (cavb l ++ rest) c.2 4 hn4
      rw [List.length_append, be_length] at this
      rw [cavb_cons]
      simpa [List.append_assoc] using this
    have e3 : ((c.1.toNat : Nat) : Int) = c.1 := by omega
    have ih := decCavs_at l (acc ++ [c]) (pre ++ (be c.1.toNat 1 ++ be c.2 4)) rest (fun x hx => h x (List.mem_cons_of_mem _ hx))
    rw [List.length_append, List.length_append, be_length, be_length] at ih
    show decCavs _ (l.length + 1) _ _ = _
    unfold decCavs
    simp only [e1, e2, e3, hk, if_true]
    rw [show ((c.1, c.2) : Int × Nat) = c from rfl, show pre.length + 1 + 4 = pre.length + (1 + 4) by omega]
    rw [show (pre ++ (be c.1.toNat 1 ++ be c.2 4)) ++ (cavb l ++ rest) = pre ++ (cavb (c :: l) ++ rest) by rw [cavb_cons]; simp [List.append_assoc]] at ih
    rw [ih, cavb_cons]
    simp [be_length]
    omega

/-- What is encoded is decoded. -/
theorem decT_at (id : Nat) (l : List (Int × Nat)) (tag rest : List Nat) (hid : id < 4294967296) (hl : l.length ≤ 4) (hc : ∀ c ∈ l, kindB c.1 = true ∧ c.2 < 4294967296) (ht : tag.length = 32) :
    decT (be id 4 ++ (be l.length 1 ++ (cavb l ++ (tag ++ rest)))) (0, none) = ((37 + 5 * l.length, none), (id, l, tag)) := by
  have e1 : rNum (be id 4 ++ (be l.length 1 ++ (cavb l ++ (tag ++ rest)))) (0, none) 4 = ((4, none), id) := by
    have := rNum_at [] (be l.length 1 ++ (cavb l ++ (tag ++ rest))) id 4 (Nat.lt_of_lt_of_eq hid (by decide))
    simpa using this
  have e2 : rNum (be id 4 ++ (be l.length 1 ++ (cavb l ++ (tag ++ rest)))) (4, none) 1 = ((5, none), l.length) := by
    have := rNum_at (be id 4) (cavb l ++ (tag ++ rest)) l.length 1 (by omega)
    rw [be_length] at this
    exact this
  have hcl : (cavb l).length = 5 * l.length := cavb_len l
  have e3 : decCavs (be id 4 ++ (be l.length 1 ++ (cavb l ++ (tag ++ rest)))) l.length (5, none) [] = ((5 + 5 * l.length, none), l) := by
    have := decCavs_at l [] (be id 4 ++ be l.length 1) (tag ++ rest) hc
    rw [List.length_append, be_length, be_length, hcl] at this
    simpa [List.append_assoc] using this
  have e4 : rDig (be id 4 ++ (be l.length 1 ++ (cavb l ++ (tag ++ rest)))) (5 + 5 * l.length, none) = ((5 + 5 * l.length + 32, none), tag) := by
    have := rTake_at (be id 4 ++ (be l.length 1 ++ cavb l)) tag rest 32 ht
    rw [List.length_append, List.length_append, be_length, be_length, hcl] at this
    unfold rDig
    rw [show be id 4 ++ (be l.length 1 ++ (cavb l ++ (tag ++ rest))) = (be id 4 ++ (be l.length 1 ++ cavb l)) ++ (tag ++ rest) by simp [List.append_assoc], show 5 + 5 * l.length = 4 + (1 + 5 * l.length) by omega, this]
    simp [ht]
  unfold decT
  simp only [e1, e2, decHead]
  rw [if_neg (by omega)]
  simp only [e3, e4]
  rw [show 5 + 5 * l.length + 32 = 37 + 5 * l.length by omega]

theorem tokDec_res (id : Nat) (l : List (Int × Nat)) (tag : List Nat) (hid : id < 4294967296) (hc : ∀ c ∈ l, c.2 < 4294967296) (ht : tag.length = 32) (h : (tokRes id l tag).1 = 0) : tokDec (tokRes id l tag).2 = (none, (id, l, tag)) ∧ l.length ≤ 4 := by
  unfold tokRes at h ⊢
  split at h
  · simp at h
  · rename_i h4
    split at h
    · rename_i hk
      rw [if_neg h4, if_pos hk]
      refine ⟨?_, by omega⟩
      have hkk : ∀ c ∈ l, kindB c.1 = true ∧ c.2 < 4294967296 := fun c hcl => ⟨by simpa using List.all_eq_true.1 hk c hcl, hc c hcl⟩
      have e := decT_at id l tag [] hid (by omega) hkk ht
      rw [List.append_nil] at e
      show tokDec (be id 4 ++ be l.length 1 ++ cavb l ++ tag) = _
      rw [show be id 4 ++ be l.length 1 ++ cavb l ++ tag = be id 4 ++ (be l.length 1 ++ (cavb l ++ tag)) by simp [List.append_assoc]]
      unfold tokDec
      rw [e]
      have hl : (be id 4 ++ (be l.length 1 ++ (cavb l ++ tag))).length = 37 + 5 * l.length := by
        simp only [List.length_append, be_length, cavb_len, ht]
        omega
      unfold rEnd
      simp only [hl, Nat.lt_irrefl, if_false]
    · simp at h

theorem rTake_ok (bs : List Nat) (s : RSt) (k : Nat) (hs : s.1 ≤ bs.length) (h : (rTake bs s k).1.2 = none) :
    s.2 = none ∧ (rTake bs s k).1 = (s.1 + k, none) ∧ s.1 + k ≤ bs.length ∧ (rTake bs s k).2.length = k ∧ bs.take (s.1 + k) = bs.take s.1 ++ (rTake bs s k).2 := by
  unfold rTake at h ⊢
  split at h
  · rename_i x hx
    rw [hx] at h
    cases h
  · rename_i hx
    split at h
    · rename_i hk
      rw [if_pos hk]
      refine ⟨hx, rfl, by omega, by simp; omega, ?_⟩
      rw [List.take_add]
    · cases h

theorem rNum_ok (bs : List Nat) (s : RSt) (k : Nat) (hs : s.1 ≤ bs.length) (hb : ∀ x ∈ bs, x < 256) (h : (rNum bs s k).1.2 = none) :
    s.2 = none ∧ (rNum bs s k).1 = (s.1 + k, none) ∧ s.1 + k ≤ bs.length ∧ bs.take (s.1 + k) = bs.take s.1 ++ be (rNum bs s k).2 k := by
  obtain ⟨h1, h2, h3, h4, h5⟩ := rTake_ok bs s k hs h
  refine ⟨h1, h2, h3, ?_⟩
  have := be_num (rTake bs s k).2 (rTake_lt bs s k hb)
  rw [h4] at this
  rw [h5]
  show _ = _ ++ be (num (rTake bs s k).2) k
  rw [this]

theorem decCavs_ok (bs : List Nat) (hb : ∀ x ∈ bs, x < 256) : ∀ (n : Nat) (s : RSt) (acc : List (Int × Nat)), s.1 ≤ bs.length → (decCavs bs n s acc).1.2 = none →
    s.2 = none ∧ (decCavs bs n s acc).1 = (s.1 + 5 * n, none) ∧ s.1 + 5 * n ≤ bs.length ∧
      ∃ l, (decCavs bs n s acc).2 = acc ++ l ∧ l.length = n ∧ (∀ c ∈ l, kindB c.1 = true ∧ c.2 < 4294967296) ∧ bs.take (s.1 + 5 * n) = bs.take s.1 ++ cavb l
  | 0, s, acc, hs, h => by
    obtain ⟨s1, s2⟩ := s
    have h' : s2 = none := h
    subst h'
    exact ⟨rfl, rfl, hs, [], by simp [decCavs], rfl, by simp, by simp [cavb]⟩
  | n + 1, s, acc, hs, h => by
    unfold decCavs at h ⊢
    split at h
    · rename_i hk
      rw [if_pos hk]
      have hmid : (rNum bs (rNum bs s 1).1 4).1.2 = none := by
        cases h2 : (rNum bs (rNum bs s 1).1 4).1.2 with
        | none => rfl
        | some x =>
          rw [decCavs_ref bs n _ _ x h2, h2] at h
          cases h
      have hmid1 : (rNum bs s 1).1.2 = none := by
        cases h2 : (rNum bs s 1).1.2 with
        | none => rfl
        | some x =>
          rw [rNum_ref bs _ 4 x h2, h2] at hmid
          cases hmid
      obtain ⟨a1, a2, a3, a4⟩ := rNum_ok bs s 1 hs hb hmid1
      have kb := kindB_bd hk
      have h4l := rNum_lt bs (rNum bs s 1).1 4 hb
      rw [a2] at h hmid h4l ⊢
      obtain ⟨b1, b2, b3, b4⟩ := rNum_ok bs (s.1 + 1, none) 4 a3 hb hmid
      obtain ⟨c1, c2, c3, l, c4, c5, c6, c7⟩ := decCavs_ok bs hb n _ _ (by rw [b2]; exact b3) h
      rw [b2] at c2 c3 c7
      refine ⟨a1, ?_, ?_, (((rNum bs s 1).2 : Int), (rNum bs (s.1 + 1, none) 4).2) :: l, ?_, by simp [c5], ?_, ?_⟩
      · rw [b2, c2]
        simp only
        congr 1
        omega
      · simp only at c3
        omega
      · rw [c4]
        simp
      · intro c hc
        rcases List.mem_cons.1 hc with rfl | hc
        · exact ⟨hk, Nat.lt_of_lt_of_eq h4l (by decide)⟩
        · exact c6 c hc
      · simp only at c7 b4 a4
        rw [show s.1 + 5 * (n + 1) = s.1 + 1 + 4 + 5 * n by omega, c7, b4, a4, cavb_cons]
        simp [List.append_assoc]
    · exact absurd h (rRefuse_some _ _ _)

/-- What is decoded is encoded to its bytes. -/
theorem decT_ok (bs : List Nat) (hb : ∀ x ∈ bs, x < 256) (h : (decT bs (0, none)).1.2 = none) :
    ∃ id l tag, decT bs (0, none) = ((37 + 5 * l.length, none), (id, l, tag)) ∧ id < 4294967296 ∧ l.length ≤ 4 ∧ (∀ c ∈ l, kindB c.1 = true ∧ c.2 < 4294967296) ∧ tag.length = 32 ∧ (∀ x ∈ tag, x < 256) ∧ 37 + 5 * l.length ≤ bs.length ∧ bs.take (37 + 5 * l.length) = be id 4 ++ be l.length 1 ++ cavb l ++ tag := by
  have hdef : decT bs (0, none) = ((rDig bs (decCavs bs (decHead bs (rNum bs (rNum bs (0, none) 4).1 1).1 (rNum bs (rNum bs (0, none) 4).1 1).2).2 (decHead bs (rNum bs (rNum bs (0, none) 4).1 1).1 (rNum bs (rNum bs (0, none) 4).1 1).2).1 []).1).1,
      ((rNum bs (0, none) 4).2, (decCavs bs (decHead bs (rNum bs (rNum bs (0, none) 4).1 1).1 (rNum bs (rNum bs (0, none) 4).1 1).2).2 (decHead bs (rNum bs (rNum bs (0, none) 4).1 1).1 (rNum bs (rNum bs (0, none) 4).1 1).2).1 []).2,
        (rDig bs (decCavs bs (decHead bs (rNum bs (rNum bs (0, none) 4).1 1).1 (rNum bs (rNum bs (0, none) 4).1 1).2).2 (decHead bs (rNum bs (rNum bs (0, none) 4).1 1).1 (rNum bs (rNum bs (0, none) 4).1 1).2).1 []).1).2)) := rfl
  rw [hdef] at h ⊢
  simp only at h
  obtain ⟨D, hD⟩ : ∃ D, decCavs bs (decHead bs (rNum bs (rNum bs (0, none) 4).1 1).1 (rNum bs (rNum bs (0, none) 4).1 1).2).2 (decHead bs (rNum bs (rNum bs (0, none) 4).1 1).1 (rNum bs (rNum bs (0, none) 4).1 1).2).1 [] = D := ⟨_, rfl⟩
  rw [hD] at h ⊢
  have hDn : D.1.2 = none := by
    cases h2 : D.1.2 with
    | none => rfl
    | some x =>
      unfold rDig at h
      rw [rTake_ref bs _ 32 x h2] at h
      simp only at h
      rw [h2] at h
      cases h
  have hhead : 4 < (rNum bs (rNum bs (0, none) 4).1 1).2 → False := fun h4 => by
    unfold decHead at hD
    rw [if_pos h4] at hD
    rw [← hD] at hDn
    exact rRefuse_some _ _ _ hDn
  have hhd : decHead bs (rNum bs (rNum bs (0, none) 4).1 1).1 (rNum bs (rNum bs (0, none) 4).1 1).2 = ((rNum bs (rNum bs (0, none) 4).1 1).1, (rNum bs (rNum bs (0, none) 4).1 1).2) := by
    unfold decHead
    rw [if_neg hhead]
  rw [hhd] at hD
  simp only at hD
  have h1n : (rNum bs (rNum bs (0, none) 4).1 1).1.2 = none := by
    cases h2 : (rNum bs (rNum bs (0, none) 4).1 1).1.2 with
    | none => rfl
    | some x =>
      rw [← hD, decCavs_ref bs _ _ _ x h2, h2] at hDn
      cases hDn
  have h0n : (rNum bs (0, none) 4).1.2 = none := by
    cases h2 : (rNum bs (0, none) 4).1.2 with
    | none => rfl
    | some x =>
      rw [rNum_ref bs _ 1 x h2, h2] at h1n
      cases h1n
  obtain ⟨a1, a2, a3, a4⟩ := rNum_ok bs (0, none) 4 (Nat.zero_le _) hb h0n
  have hid := rNum_lt bs (0, none) 4 hb
  rw [a2] at h1n hD hhead
  obtain ⟨b1, b2, b3, b4⟩ := rNum_ok bs (0 + 4, none) 1 a3 hb h1n
  rw [b2] at hD
  rw [← hD] at hDn
  obtain ⟨c1, c2, c3, l, c4, c5, c6, c7⟩ := decCavs_ok bs hb _ _ [] b3 hDn
  rw [hD] at c2 c4
  have hDD : D = ((0 + 4 + 1 + 5 * (rNum bs (0 + 4, none) 1).2, none), l) := by
    rw [show D = (D.1, D.2) from rfl, c2, c4]
    rfl
  rw [hDD] at h ⊢
  simp only at h c3 c7 a4 b4 ⊢
  obtain ⟨d1, d2, d3, d4, d5⟩ := rTake_ok bs (0 + 4 + 1 + 5 * (rNum bs (0 + 4, none) 1).2, none) 32 c3 h
  have hdl := rDig_length bs (0 + 4 + 1 + 5 * (rNum bs (0 + 4, none) 1).2, none)
  have hdb := rDig_lt bs (0 + 4 + 1 + 5 * (rNum bs (0 + 4, none) 1).2, none) hb
  have hdd : (rDig bs (0 + 4 + 1 + 5 * (rNum bs (0 + 4, none) 1).2, none)).2 = (rTake bs (0 + 4 + 1 + 5 * (rNum bs (0 + 4, none) 1).2, none) 32).2 := by
    unfold rDig
    simp only
    rw [d4]
    simp
  have hd1 : (rDig bs (0 + 4 + 1 + 5 * (rNum bs (0 + 4, none) 1).2, none)).1 = (0 + 4 + 1 + 5 * (rNum bs (0 + 4, none) 1).2 + 32, none) := d2
  rw [← c5] at hd1 hdd hdl hdb d3 d5 c7 hhead b4 ⊢
  have e37 : 0 + 4 + 1 + 5 * l.length + 32 = 37 + 5 * l.length := by omega
  refine ⟨(rNum bs (0, none) 4).2, l, (rDig bs (0 + 4 + 1 + 5 * l.length, none)).2, ?_, Nat.lt_of_lt_of_eq hid (by decide), Nat.le_of_not_lt hhead, c6, hdl, hdb, ?_, ?_⟩
  · rw [hd1, e37]
  · rw [← e37]
    exact d3
  · simp only at d5
    rw [← e37, d5, c7, b4, a4, hdd]
    simp [List.append_assoc]

theorem tokDec_ok (bs : List Nat) (hb : ∀ x ∈ bs, x < 256) (h : (tokDec bs).1 = none) :
    ∃ id l tag, tokDec bs = (none, (id, l, tag)) ∧ id < 4294967296 ∧ l.length ≤ 4 ∧ (∀ c ∈ l, kindB c.1 = true ∧ c.2 < 4294967296) ∧ tag.length = 32 ∧ (∀ x ∈ tag, x < 256) ∧ tokRes id l tag = (0, bs) := by
  unfold tokDec at h ⊢
  cases hE : rEnd bs (decT bs (0, none)).1 with
  | some x =>
    rw [hE] at h
    cases h
  | none =>
    have hn : (decT bs (0, none)).1.2 = none := by
      unfold rEnd at hE
      split at hE
      · cases hE
      · assumption
    obtain ⟨id, l, tag, e, h1, h2, h3, h4, h5, h6, h7⟩ := decT_ok bs hb hn
    have hlen : bs.length ≤ 37 + 5 * l.length := by
      rw [e] at hE
      unfold rEnd at hE
      simp only at hE
      split at hE
      · cases hE
      · omega
    refine ⟨id, l, tag, by simp only [e], h1, h2, h3, h4, h5, ?_⟩
    rw [List.take_of_length_le hlen] at h7
    unfold tokRes
    rw [if_neg (by omega), if_pos (List.all_eq_true.2 fun c hc => by simpa using (h3 c hc).1), h7]

/-- What tokDec gives is in order. -/
theorem tokDec_Ok (bs : List Nat) (hb : ∀ x ∈ bs, x < 256) : (tokDec bs).2.Ok ∧ (tokDec bs).2.2.1.length ≤ 4 := by
  cases h : (tokDec bs).1 with
  | none =>
    obtain ⟨id, l, tag, e, h1, h2, h3, h4, h5, -⟩ := tokDec_ok bs hb h
    rw [e]
    exact ⟨⟨h1, fun c hc => (h3 c hc).2, h4, h5⟩, h2⟩
  | some x =>
    have : (tokDec bs).2 = zeroTok := by
      unfold tokDec at h ⊢
      split at h
      · cases h
      · rfl
    rw [this]
    exact ⟨⟨by decide, fun c hc => (nomatch hc), by simp [zeroTok], by intro x hx; simp [zeroTok] at hx; omega⟩, by simp [zeroTok]⟩

end Go.Proofs.YtamhggndcegndaaDoor
