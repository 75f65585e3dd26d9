/-
  sha.Sum: a text's hash.
-/
import Derived.Test.YtamhggndcegndaaDoorMix
import Derived.Test.YtamhggndcegndaaDoorCopy
import Derived.Laws.CopyOwn
namespace Go.Proofs.YtamhggndcegndaaDoor
open Go.RowKit
set_option linter.unusedVariables false
set_option maxRecDepth 100000

/-- The state behind k blocks. -/
def blocks (bs : List Nat) (s : St) : Nat → St
  | 0 => s
  | k + 1 => mixed (bs.drop (64 * k)) (blocks bs s k)

theorem blocks_ok (bs : List Nat) (s : St) (h : s.ok) : ∀ k, (blocks bs s k).ok
  | 0 => h
  | k + 1 => mixed_ok _ _

theorem start0_ok : start0.ok := by unfold St.ok start0; decide

def tailEnd (r : Nat) : Nat := if r + 9 > 64 then 128 else 64

/-- What stands behind the last whole block: the rest, a bit, noughts, the length, 128 bytes in all; its length written down to k bytes. -/
def tailK (bs : List Nat) (k : Nat) : List Nat :=
  let r := bs.length % 64
  (bs.drop (bs.length - r) ++ 128 :: List.replicate (tailEnd r - r - 1 - k) 0) ++ (be (8 * bs.length) k ++ List.replicate (128 - tailEnd r) 0)

def shaSt (bs : List Nat) : St := blocks (tailK bs 8) (blocks bs start0 (bs.length / 64)) (tailEnd (bs.length % 64) / 64)

def digest (s : St) : List Nat := (List.range 32).map fun i => s.list.getD (i / 4) 0 / 2 ^ (24 - 8 * (i % 4)) % 256

def sha (bs : List Nat) : List Nat := digest (shaSt bs)

theorem byv_get {l : List Nat} {i : Nat} (h : i < l.length) : (byv l).toArray[i]? = some (.int .u8 (l.getD i 0 : Nat)) := by
  simp only [byv, List.getElem?_toArray, List.getElem?_map]
  rw [List.getD_eq_getElem?_getD, List.getElem?_eq_getElem h]; rfl

theorem reads_blk {w : World} {g p : Nat} {t : TypeId} {l : List Nat} (h : Blk w g t (byv l).toArray) (hp : p ≤ l.length) : Reads w w.heap.size 1 (some ⟨g, p, none⟩) (l.length - p) (byv (l.drop p)) := by
  refine ⟨by simp [byv], fun _ => ⟨_, rfl, h.lt, fun j u hu => ?_⟩⟩
  have e : (⟨g, p, none⟩ : Addr).add j = ⟨g, p + j, none⟩ := by unfold Addr.add; split <;> simp_all
  rw [e, h.cell, ← hu]
  simp [byv]

/-- A list's first k, then noughts. -/
def prefL (L : List Nat) (k : Nat) : List Nat := L.take k ++ List.replicate (L.length - k) 0

theorem prefL_set {L : List Nat} {k v : Nat} (h : k < L.length) (hv : L.getD k 0 = v) : (byv (prefL L k)).toArray.setIfInBounds k (.int .u8 (v : Int)) = (byv (prefL L (k + 1))).toArray := by
  unfold prefL
  rw [show L.length - k = (L.length - (k + 1)) + 1 by omega, List.replicate_succ]
  have e := byv_set (L.take k) (List.replicate (L.length - (k + 1)) 0) 0 v
  rw [List.length_take, Nat.min_eq_left (by omega)] at e
  rw [e, List.take_add_one, List.getElem?_eq_getElem h]
  rw [List.getD_eq_getElem?_getD, List.getElem?_eq_getElem h] at hv
  simp only [Option.getD_some] at hv
  simp [hv]

theorem prefL_all (L : List Nat) : prefL L L.length = L := by simp [prefL]

theorem digest_at (st : St) {k : Nat} (h : k < 32) : (digest st).getD k 0 = st.list.getD (k / 4) 0 / 2 ^ (24 - 8 * (k % 4)) % 256 := by
  unfold digest
  rw [List.getD_eq_getElem?_getD, List.getElem?_map, List.getElem?_range h]
  rfl

theorem tailEnd_bd (r : Nat) (h : r < 64) : r + 9 ≤ tailEnd r ∧ (tailEnd r = 64 ∨ tailEnd r = 128) := by unfold tailEnd; split <;> omega

theorem be_succ (N k : Nat) : be N (k + 1) = byteAt N k :: be N k := by
  unfold be
  rw [List.range_succ_eq_map, List.map_cons, List.map_map]
  congr 1
  apply List.map_congr_left
  intro j hj
  have := List.mem_range.1 hj
  show byteAt N (k + 1 - 1 - (j + 1)) = byteAt N (k - 1 - j)
  congr 1
  omega

theorem tail_set (bs : List Nat) (k : Nat) (hk : k < 8) : (byv (tailK bs k)).toArray.setIfInBounds (tailEnd (bs.length % 64) - 1 - k) (.int .u8 (byteAt (8 * bs.length) k : Nat)) = (byv (tailK bs (k + 1))).toArray := by
  have hr : bs.length % 64 < 64 := Nat.mod_lt _ (by decide)
  obtain ⟨e1, e2⟩ := tailEnd_bd _ hr
  unfold tailK
  dsimp only
  have e : tailEnd (bs.length % 64) - bs.length % 64 - 1 - k = (tailEnd (bs.length % 64) - bs.length % 64 - 1 - (k + 1)) + 1 := by omega
  rw [be_succ, e, List.replicate_succ']
  have h := byv_set (bs.drop (bs.length - bs.length % 64) ++ 128 :: List.replicate (tailEnd (bs.length % 64) - bs.length % 64 - 1 - (k + 1)) 0) (be (8 * bs.length) k ++ List.replicate (128 - tailEnd (bs.length % 64)) 0) 0 (byteAt (8 * bs.length) k)
  have hl : (bs.drop (bs.length - bs.length % 64) ++ 128 :: List.replicate (tailEnd (bs.length % 64) - bs.length % 64 - 1 - (k + 1)) 0).length = tailEnd (bs.length % 64) - 1 - k := by simp; omega
  rw [hl] at h
  simpa using h

theorem tail_zero (bs : List Nat) : tailK bs 0 = bs.drop (bs.length - bs.length % 64) ++ 128 :: List.replicate (127 - bs.length % 64) 0 := by
  have hr : bs.length % 64 < 64 := Nat.mod_lt _ (by decide)
  obtain ⟨e1, e2⟩ := tailEnd_bd _ hr
  unfold tailK
  have : be (8 * bs.length) 0 = [] := rfl
  simp only [this, List.nil_append, List.append_assoc, List.cons_append, List.replicate_append_replicate]
  congr 3
  omega

theorem tail_length (bs : List Nat) (k : Nat) (hk : k ≤ 8) : (tailK bs k).length = 128 := by
  have hr : bs.length % 64 < 64 := Nat.mod_lt _ (by decide)
  obtain ⟨e1, e2⟩ := tailEnd_bd _ hr
  simp [tailK, be_length]
  omega

theorem tail_lt (bs : List Nat) (h : ∀ b ∈ bs, b < 256) (k : Nat) : ∀ b ∈ tailK bs k, b < 256 := by
  intro b hb
  simp only [tailK, List.mem_append, List.mem_cons, List.mem_replicate] at hb
  rcases hb with (hb | rfl | ⟨_, rfl⟩) | hb | ⟨_, rfl⟩
  · exact h b (List.mem_of_mem_drop hb)
  · decide
  · decide
  · exact be_lt _ _ b hb
  · decide

theorem tabs_grown {w w' : World} {g : Nat} (h : Tabs w) (hg : w.grownBy w' (some g)) (h3 : 3 ≤ g) : Tabs w' :=
  ⟨Nat.le_trans h.size hg.size, fun i hi => (World.cell?_of_block (hg.block _ (by have := h.size; show (1 : Nat) < _; omega) (fun e => by injection e with e; have e : (1 : Nat) = g := e; omega))).trans (h.start i hi),
    fun i hi => (World.cell?_of_block (hg.block _ (by have := h.size; show (2 : Nat) < _; omega) (fun e => by injection e with e; have e : (2 : Nat) = g := e; omega))).trans (h.words i hi)⟩

-- END BY HAND
set_option maxHeartbeats 4000000 in
theorem sha_sum (n cc : Nat) (A : Option Addr) (bs : List Nat) (w : World) (hb2 : ∀ b ∈ bs, b < 256) (hr : Reads w w.heap.size 1 A n (byv bs)) (hnc : n ≤ cc) (hn : n ≤ 1152921504606846975) (ht : Tabs w) :
    Calls Tryd.prog 65 #[.slice A n cc] w fun e w' => e = .returned (.agg (byv (sha bs)).toArray) ∧ Below w.heap.size w w' := by
  have hlen : bs.length = n := reads_bytes_le hr
  obtain ⟨m, hm⟩ : ∃ m, n / 64 = m := ⟨_, rfl⟩
  have d1 : Int.tdiv (n : Int) 64 = (m : Int) := by rw [← hm, Int.tdiv_eq_ediv_of_nonneg (by omega)]; omega
  have d2 : IntKind.i64.wrap (m : Int) = m := IntWalk.i64_in _ (by omega)
  obtain ⟨p4, hp4⟩ : ∃ p, 64 * m = p := ⟨_, rfl⟩
  have d3 : IntKind.i64.wrap ((m : Int) * 64) = (p4 : Int) := by rw [show ((m : Int) * 64) = (p4 : Int) by omega]; exact IntWalk.i64_in _ (by omega)
  have HP4 := Lib.hid hp4
  have g0 : ∀ i, i < 8 → w.cell? ⟨1, i, none⟩ = start0.vals[i]? := ht.start
  have c0 := g0 0 (by omega); have c1 := g0 1 (by omega); have c2 := g0 2 (by omega); have c3 := g0 3 (by omega); have c4 := g0 4 (by omega); have c5 := g0 5 (by omega); have c6 := g0 6 (by omega); have c7 := g0 7 (by omega)
  simp [St.vals, start0] at c0 c1 c2 c3 c4 c5 c6 c7
  have hlt2 : 1 < w.heap.size := by have := ht.size; omega
  clear g0
  have Ht := Lib.hid ht
  have Hr := Lib.hid hr
  have HM := Lib.hid hm
  have HLEN := Lib.hid hlen
  have hW : ∃ x, x = (w.alloc (.cells #[.int .u8 0, .int .u8 0, .int .u8 0, .int .u8 0, .int .u8 0, .int .u8 0, .int .u8 0, .int .u8 0, .int .u8 0, .int .u8 0, .int .u8 0, .int .u8 0, .int .u8 0, .int .u8 0, .int .u8 0, .int .u8 0, .int .u8 0, .int .u8 0, .int .u8 0, .int .u8 0, .int .u8 0, .int .u8 0, .int .u8 0, .int .u8 0, .int .u8 0, .int .u8 0, .int .u8 0, .int .u8 0, .int .u8 0, .int .u8 0, .int .u8 0, .int .u8 0] 28)).alloc (.cells #[.int .u32 1779033703, .int .u32 3144134277, .int .u32 1013904242, .int .u32 2773480762, .int .u32 1359893119, .int .u32 2600822924, .int .u32 528734635, .int .u32 1541459225] 76) := ⟨_, rfl⟩
  obtain ⟨W1, hW1⟩ := hW
  have Z1 : Blk W1 w.heap.size 28 #[.int .u8 0, .int .u8 0, .int .u8 0, .int .u8 0, .int .u8 0, .int .u8 0, .int .u8 0, .int .u8 0, .int .u8 0, .int .u8 0, .int .u8 0, .int .u8 0, .int .u8 0, .int .u8 0, .int .u8 0, .int .u8 0, .int .u8 0, .int .u8 0, .int .u8 0, .int .u8 0, .int .u8 0, .int .u8 0, .int .u8 0, .int .u8 0, .int .u8 0, .int .u8 0, .int .u8 0, .int .u8 0, .int .u8 0, .int .u8 0, .int .u8 0, .int .u8 0] := by rw [hW1]; exact (Blk.new w _ _).alloc _
  have S1 : Blk W1 (w.heap.size + 1) 76 start0.vals := by
    have h := Blk.new (w.alloc (.cells #[.int .u8 0, .int .u8 0, .int .u8 0, .int .u8 0, .int .u8 0, .int .u8 0, .int .u8 0, .int .u8 0, .int .u8 0, .int .u8 0, .int .u8 0, .int .u8 0, .int .u8 0, .int .u8 0, .int .u8 0, .int .u8 0, .int .u8 0, .int .u8 0, .int .u8 0, .int .u8 0, .int .u8 0, .int .u8 0, .int .u8 0, .int .u8 0, .int .u8 0, .int .u8 0, .int .u8 0, .int .u8 0, .int .u8 0, .int .u8 0, .int .u8 0, .int .u8 0] 28)) 76 start0.vals
    rw [alloc_size] at h
    rw [hW1]
    exact h
  have B1 : Below w.heap.size w W1 := by rw [hW1]; exact below_new (below_new (Below.refl _ _) _) _
  have L1 : w.heap.size + 1 < W1.heap.size := S1.lt
  have HB2 := Lib.hid hb2
  clear ht hr hm hlen hp4 hb2
  go_enter Tryd.func65, Tryd.ntmps65
  go_wp2_with fail
  rw [← hW1]
  have HW1 := Lib.hid hW1
  have HZ1 := Lib.hid Z1
  have HS1 := Lib.hid S1
  have HB1 := Lib.hid B1
  clear hW1 Z1 S1 B1 c0 c1 c2 c3 c4 c5 c6 c7
  go_loopw [5] (fun i wr => ∃ k p : Nat, k ≤ m ∧ Hid (64 * k = p) ∧ i = .int .i64 p ∧ Blk wr (w.heap.size + 1) 76 (blocks bs start0 k).vals ∧ W1.grownBy wr (some (w.heap.size + 1))) (fun i _ => p4 - (intOf i).toNat)
  case atStart => exact ⟨0, 0, by omega, rfl, rfl, HS1.out, World.grownBy.refl _ _⟩
  case round =>
    obtain ⟨k, p, hk, hp, rfl, hst, hgr⟩ := hrel
    by_cases hkm : k < m
    · have ep := hp.out
      have e4 := HP4.out
      have em := HM.out
      have q1 : (p : Int) < p4 := by omega
      have q2 : p ≤ n := by omega
      have q3 : p < cc := by omega
      have q4 : cc ≠ p := by omega
      have hr1 := ((Hr.out.below HB1.out).grown hgr (by omega) (by intro g hg; injection hg with hg; omega)).cut (k := p) (cap := cc) q2 hnc
      rw [if_neg (by omega), Nat.mul_one, show (byv bs).drop p = byv (bs.drop p) by simp [byv]] at hr1
      have hT := (Ht.out.below HB1.out Ht.out.size)
      have hT1 := tabs_grown hT hgr (by have := Ht.out.size; omega)
      have hl1 : (bs.drop p).length = n - p := by rw [List.length_drop, HLEN.out]
      have hst2 := hst
      rw [St.vals] at hst2
      have K := sha_mix (w.heap.size + 1) w.heap.size (n - p) (cc - p) _ (bs.drop p) _ wr (blocks_ok bs start0 start0_ok k) hl1 (by omega) (fun b hb => HB2.out b (List.mem_of_mem_drop hb)) hst2 hr1 (by have := hgr.size; omega) hT1
      have HK := Lib.hid K
      have Hgr := Lib.hid hgr
      clear ep e4 em hgr K hT hT1 hst hst2 hr1 hl1
      go_wp2_with fail
      with_reducible refine HK.out.mono ?_
      rintro e w2 ⟨rfl, h1, h2⟩
      have w1 : IntKind.i64.wrap ((p : Int) + 64) = (p + 64 : Nat) := by rw [show ((p : Int) + 64) = ((p + 64 : Nat) : Int) by omega]; exact IntWalk.i64_in _ (by have := hp.out; have := HP4.out; have := HM.out; omega)
      go_wp2_with fail
      go_roundw
      case rel => exact ⟨k + 1, p + 64, by omega, (show 64 * (k + 1) = p + 64 by have := hp.out; omega), by go_num, by rw [blocks, hp.out]; exact h1, grownBy_trans Hgr.out h2⟩
      case measure => simp [intOf]; have := hp.out; omega
    · have hk' : k = m := by omega
      have q1 : ¬ (p : Int) < p4 := by have := hp.out; have := HP4.out; omega
      rw [hk'] at hst
      have Hst := Lib.hid hst
      have Hgr := Lib.hid hgr
      clear hst hgr hk' hkm hk
      obtain ⟨W2, rfl⟩ : ∃ x, x = wr := ⟨_, rfl⟩
      obtain ⟨r, hrr⟩ : ∃ r, n - p4 = r := ⟨_, rfl⟩
      have hr64 : n % 64 = r := by have := HP4.out; have := HM.out; omega
      have r64 : r < 64 := by omega
      have e4n : p4 ≤ n := by have := HP4.out; have := HM.out; omega
      have HX : Reads W2 w.heap.size 1 (if cc = p4 then A else A.map (·.add p4)) r (byv (bs.drop p4)) := by
        have h := ((Hr.out.below HB1.out).grown Hgr.out (by omega) (by intro g hg; injection hg with hg; omega)).cut (k := p4) (cap := cc) e4n hnc
        rw [hrr, Nat.mul_one, show (byv bs).drop p4 = byv (bs.drop p4) by simp [byv]] at h
        exact h
      have HX' := Lib.hid HX
      obtain ⟨rest, hrest⟩ : ∃ rest, bs.drop p4 = rest := ⟨_, rfl⟩
      have lrest : rest.length = r := by rw [← hrest, List.length_drop, HLEN.out]; exact hrr
      have W3a : Blk (W2.alloc (.cells Tryd.zeroCells149 149)) W2.heap.size 149 (byv (List.replicate 128 0)).toArray := Blk.new W2 _ _
      rw [hrest] at HX
      obtain ⟨A2, hA2⟩ : ∃ x, (if cc = p4 then A else A.map (·.add p4)) = x := ⟨_, rfl⟩
      rw [hA2] at HX
      have HA2 := Lib.hid hA2
      clear hA2
      have HXr := Lib.hid HX
      have Hrest := Lib.hid hrest
      have Hlrest := Lib.hid lrest
      have HW3a := Lib.hid W3a
      have Hrr := Lib.hid hrr
      have L2 : w.heap.size + 1 < W2.heap.size := Nat.lt_of_lt_of_le L1 Hgr.out.size
      have HL2 := Lib.hid L2
      clear HX HX' hrest lrest W3a
      go_wp2_with fail
      obtain ⟨S, HS⟩ : ∃ S : World → Prop, Hid (∀ w', S w') := ⟨fun _ => True, fun _ => trivial⟩
      refine wp_region_seq S 6 [(0, false), (1, false), (2, false), (3, false), (4, true), (5, false)] (by kernel_rfl) rfl (by kernel_rfl) (by kernel_rfl) (by kernel_rfl) (fun _ _ d _ _ h => by cases d <;> exact h) (HS.out _) ?_
      iterate 3 (refine wpSeq_read rfl rfl ⟨?_, fun w1 hS => ?_, ?_⟩; rotate_left; (focus (go_simp; (try go_bits); try rfl)); simp only [Act.put, List.setIfInBounds_toArray, List.set_cons_zero, List.set_cons_succ])
      refine wpSeq_read rfl rfl ⟨.slice A2 r (cc - p4), fun w1 hS => ?_, ?_⟩
      · rw [← HA2.out]
        by_cases hcp : cc = p4
        · subst hcp
          go_simp
        · go_simp
      try simp only [Act.put, List.setIfInBounds_toArray, List.set_cons_zero, List.set_cons_succ]
      refine wpSeq_write rfl rfl ?_
      refine wp_copy_splice rfl (.tmp 27) (.tmp 30) 57 57 rfl 5 (by kernel_rfl) (by kernel_rfl) _ _ _ _ _ _ rfl rfl W2.heap.size 0 (byv (List.replicate 128 0)) 149 HW3a.out (byv rest) (by rw [byv_length, Hlrest.out]; show r = min r 128; omega) (fun h0 => ⟨rfl, ?_⟩) (by rw [byv_length, byv_length, Hlrest.out, List.length_replicate]; omega) (byv_one _) W2.heap.size W2 ((Below.refl _ _).alloc (Nat.le_refl _) _).drew (Nat.le_refl _) ?_
      · obtain ⟨ad, h1, h2, h3⟩ := HXr.out.2 (by rw [byv_length, Hlrest.out] at h0; exact h0)
        refine ⟨ad, h1, fun j v hv => ?_⟩
        rw [← h3 j v hv]
        exact World.cell?_alloc_lt W2 _ _ (by rw [block_of_add]; omega)
      intro w3 HG3 hB3
      refine ⟨fun _ => HS.out w3, ?_⟩
      try simp only [Act.put, List.setIfInBounds_toArray, List.set_cons_zero, List.set_cons_succ]
      rw [show (byv rest).length = r by rw [byv_length, Hlrest.out]]
      iterate 1 (refine wpSeq_read rfl rfl ⟨?_, fun w1 hS => ?_, ?_⟩; rotate_left; (focus (go_simp; (try go_bits); try rfl)); simp only [Act.put, List.setIfInBounds_toArray, List.set_cons_zero, List.set_cons_succ])
      refine wpSeq_nil ?_
      have hT3 : Blk w3 W2.heap.size 149 (byv (rest ++ List.replicate (128 - r) 0)).toArray := by
        have h := HG3.out
        rw [byv_splice0, Hlrest.out] at h
        exact h
      rw [show 128 - r = (127 - r) + 1 by omega, List.replicate_succ] at hT3
      have ct := hT3.cell r
      rw [byv_at (Hlrest.out)] at ct
      have ft := hT3.frozen r
      have q128 : (r : Int) < 128 := by omega
      have HT3 := Lib.hid hT3
      clear hT3
      go_upto_region 11 with (fail)
      obtain ⟨W4, hW4⟩ : ∃ x, x = w3.setCell ⟨W2.heap.size, r, none⟩ (.int .u8 128) := ⟨_, rfl⟩
      rw [← hW4]
      have hT4 : Blk W4 W2.heap.size 149 (byv (tailK bs 0)).toArray := by
        have h := HT3.out.set_ r (.int .u8 (128 : Nat))
        have e := byv_set rest (List.replicate (127 - r) 0) 0 128
        rw [Hlrest.out] at e
        rw [e] at h
        rw [hW4, tail_zero, HLEN.out, hr64, show n - r = p4 by have := Hrr.out; omega, Hrest.out]
        exact h
      have hB4 : Below W2.heap.size W2 W4 := by rw [hW4]; exact hB3.setCell (Nat.le_refl _) _
      have HT4 := Lib.hid hT4
      have HB4 := Lib.hid hB4
      clear hT4 hB4 hW4 ct ft HT3 hB3 HG3
      go_upto_if 36 with (fail)
      obtain ⟨E, hE⟩ : ∃ E, tailEnd r = E := ⟨_, rfl⟩
      have eb := tailEnd_bd r r64
      rw [hE] at eb
      obtain ⟨eb1, eb2⟩ := eb
      have HE := Lib.hid hE
      clear hE
      go_cut [8] from 27 (fun s8 wx => s8 = .int .i64 (E : Nat) ∧ wx = W4)
      case first =>
        go_wp2
        all_goals
          go_meet
          case rel =>
            refine ⟨?_, rfl⟩
            rw [← HE.out]
            unfold tailEnd
            first | rw [if_pos (by omega)]; rfl | rw [if_neg (by omega)]; rfl
      case rest =>
        obtain ⟨rfl, rfl⟩ := hcut
        go_wp2_with fail
        go_loopw [37] (fun i wr => ∃ k : Nat, k ≤ 8 ∧ i = .int .i64 k ∧ Blk wr W2.heap.size 149 (byv (tailK bs k)).toArray ∧ Below W2.heap.size wc wr) (fun i _ => 8 - (intOf i).toNat)
        case atStart => exact ⟨0, by omega, rfl, HT4.out, Below.refl _ _⟩
        case round =>
          obtain ⟨k, hk, rfl, htk, hbk⟩ := hrel
          by_cases hk8 : k < 8
          · have qk8 : (k : Int) < 8 := by omega
            obtain ⟨j, hj⟩ : ∃ j, E - 1 - k = j := ⟨_, rfl⟩
            have v1 : IntKind.i64.wrap ((E : Int) - 1) = (E : Int) - 1 := IntWalk.i64_in _ (by omega)
            have v2 : IntKind.i64.wrap ((E : Int) - 1 - k) = (j : Int) := by rw [show ((E : Int) - 1 - k) = (j : Int) by omega]; exact IntWalk.i64_in _ (by omega)
            have v3 : IntKind.u64.wrap (n : Int) = n := IntWalk.u64_in _ (by omega)
            have v4 : IntKind.u64.wrap ((n : Int) * 8) = ((n * 8 : Nat) : Int) := by rw [show ((n : Int) * 8) = ((n * 8 : Nat) : Int) by omega]; exact IntWalk.u64_in _ (by omega)
            have v5 : IntKind.i64.wrap (8 * (k : Int)) = ((8 * k : Nat) : Int) := by rw [show (8 * (k : Int)) = ((8 * k : Nat) : Int) by omega]; exact IntWalk.i64_in _ (by omega)
            have qj : (j : Int) < 128 := by omega
            have ct := htk.cell j
            rw [byv_get (by rw [tail_length bs k (by omega)]; omega)] at ct
            have ft := htk.frozen j
            have Htk := Lib.hid htk
            have Hbk := Lib.hid hbk
            have Hj := Lib.hid hj
            clear htk hbk hj
            go_wp2_with fail
            go_roundw
            case rel =>
              refine ⟨k + 1, by omega, by go_num, ?_, Hbk.out.setCell (Nat.le_refl _) _⟩
              have e : ((n : Int) * 8 / 2 ^ (8 * k) % 256) = ((byteAt (8 * bs.length) k : Nat) : Int) := by
                rw [HLEN.out]
                unfold byteAt
                rw [show (256 : Nat) ^ k = 2 ^ (8 * k) by rw [Nat.pow_mul], Nat.mul_comm 8 n]
                push_cast
                rfl
              have e2 : j = tailEnd (bs.length % 64) - 1 - k := by rw [HLEN.out, hr64, HE.out, Hj.out]
              rw [e, ← tail_set bs k hk8, ← e2]
              exact Htk.out.set_ j _
            case measure => simp [intOf]; omega
          · have qk8 : ¬ (k : Int) < 8 := by omega
            have hk' : k = 8 := by omega
            rw [hk'] at htk
            obtain ⟨W5, rfl⟩ : ∃ x, x = wr := ⟨_, rfl⟩
            have hs5 : Blk W5 (w.heap.size + 1) 76 (blocks bs start0 m).vals := (Hst.out.below HB4.out (Nat.lt_of_lt_of_le (Nat.lt_of_lt_of_le L1 Hgr.out.size) (Nat.le_refl _))).below hbk (Nat.lt_of_lt_of_le L1 Hgr.out.size)
            have hT5 : Tabs W5 := ((tabs_grown (Ht.out.below HB1.out Ht.out.size) Hgr.out (by have := Ht.out.size; omega)).below HB4.out (by have := Ht.out.size; have := HL2.out; omega)).below hbk (by have := Ht.out.size; have := HL2.out; omega)
            obtain ⟨st1, hst1⟩ : ∃ st, blocks bs start0 m = st := ⟨_, rfl⟩
            have hok1 : st1.ok := hst1 ▸ blocks_ok bs start0 start0_ok m
            rw [hst1] at hs5
            have Hst1 := Lib.hid hst1
            have Hok1 := Lib.hid hok1
            have HS5 := Lib.hid hs5
            have HT5 := Lib.hid hT5
            have Ht5 := Lib.hid htk
            have Hb5 := Lib.hid hbk
            have HL2' := HL2.out
            have gne : W2.heap.size ≠ w.heap.size + 1 := by omega
            clear hs5 hT5 hst1 hok1 htk hbk hk' hk8
            go_wp2_with fail
            go_loopw [10] (fun i wr => ∃ q p : Nat, Hid (64 * q = p) ∧ p ≤ E ∧ i = .int .i64 p ∧ Blk wr (w.heap.size + 1) 76 (blocks (tailK bs 8) st1 q).vals ∧ W5.grownBy wr (some (w.heap.size + 1))) (fun i _ => E - (intOf i).toNat)
            case atStart => exact ⟨0, 0, rfl, by omega, rfl, HS5.out, World.grownBy.refl _ _⟩
            case round =>
              obtain ⟨q, p, hp, hpE, rfl, hsq, hgq⟩ := hrel
              by_cases hqE : p < E
              · have q1 : (p : Int) < E := by omega
                have hp64 : p + 64 ≤ E := by have := hp.out; omega
                have p128 : p ≤ 128 := by omega
                have pz : 0 ≤ (p : Int) := by omega
                have p128' : (p : Int) ≤ 128 := by omega
                have hrd := reads_blk (Ht5.out.grown hgq (by intro e; injection e with e; exact gne e)) (p := p) (by rw [tail_length bs 8 (by omega)]; omega)
                rw [tail_length bs 8 (by omega)] at hrd
                have hsq2 := hsq
                rw [St.vals] at hsq2
                have K := sha_mix (w.heap.size + 1) wr.heap.size (128 - p) (128 - p) _ ((tailK bs 8).drop p) _ wr (blocks_ok (tailK bs 8) st1 Hok1.out q) (by rw [List.length_drop, tail_length bs 8 (by omega)]) (by omega) (fun b hb => tail_lt bs HB2.out 8 b (List.mem_of_mem_drop hb)) hsq2 hrd (Nat.le_refl _) (tabs_grown HT5.out hgq (by have := Ht.out.size; omega))
                have HK := Lib.hid K
                have Hgq := Lib.hid hgq
                clear K hsq hsq2 hrd hgq
                go_wp2_with fail
                refine HK.out.mono ?_
                rintro e w2 ⟨rfl, h1, h2⟩
                have w1 : IntKind.i64.wrap ((p : Int) + 64) = (p + 64 : Nat) := by rw [show ((p : Int) + 64) = ((p + 64 : Nat) : Int) by omega]; exact IntWalk.i64_in _ (by omega)
                go_wp2_with fail
                go_roundw
                case rel => exact ⟨q + 1, p + 64, (show 64 * (q + 1) = p + 64 by have := hp.out; omega), hp64, by go_num, by rw [blocks, hp.out]; exact h1, grownBy_trans Hgq.out h2⟩
                case measure => simp [intOf]; omega
              · have q1 : ¬ (p : Int) < E := by omega
                have hq : q = tailEnd (bs.length % 64) / 64 := by rw [HLEN.out, hr64, HE.out]; have := hp.out; omega
                have hsh : blocks (tailK bs 8) st1 q = shaSt bs := by
                  unfold shaSt
                  rw [← hq, HLEN.out, HM.out, Hst1.out]
                rw [hsh] at hsq
                obtain ⟨st, hst⟩ : ∃ s, shaSt bs = s := ⟨_, rfl⟩
                rw [hst] at hsq
                obtain ⟨W6, rfl⟩ : ∃ x, x = wr := ⟨_, rfl⟩
                have hok : st.ok := by rw [← hst]; exact blocks_ok _ _ (blocks_ok _ _ start0_ok _) _
                have hlist := St.ok_list hok
                have hZ6 : Blk W6 w.heap.size 28 #[.int .u8 0, .int .u8 0, .int .u8 0, .int .u8 0, .int .u8 0, .int .u8 0, .int .u8 0, .int .u8 0, .int .u8 0, .int .u8 0, .int .u8 0, .int .u8 0, .int .u8 0, .int .u8 0, .int .u8 0, .int .u8 0, .int .u8 0, .int .u8 0, .int .u8 0, .int .u8 0, .int .u8 0, .int .u8 0, .int .u8 0, .int .u8 0, .int .u8 0, .int .u8 0, .int .u8 0, .int .u8 0, .int .u8 0, .int .u8 0, .int .u8 0, .int .u8 0] := (((HZ1.out.grown Hgr.out (by intro e; injection e with e; omega)).below HB4.out (by omega)).below Hb5.out (by omega)).grown hgq (by intro e; injection e with e; omega)
                have hB6 : Below w.heap.size w W6 := (((HB1.out.grown Hgr.out (by omega) (by intro g hg; injection hg with hg; omega)).trans (HB4.out.mono (by omega))).trans (Hb5.out.mono (by omega))).grown hgq (by have := Hb5.out.size; have := HB4.out.size; omega) (by intro g hg; injection hg with hg; omega)
                have HS6 := Lib.hid hsq
                have HZ6 := Lib.hid hZ6
                have HB6 := Lib.hid hB6
                have HSH := Lib.hid hst
                have HLI := Lib.hid hlist
                have lW6 : w.heap.size + 1 < W6.heap.size := hsq.lt
                have hD7 : Blk (W6.alloc (.cells #[.int .u8 0, .int .u8 0, .int .u8 0, .int .u8 0, .int .u8 0, .int .u8 0, .int .u8 0, .int .u8 0, .int .u8 0, .int .u8 0, .int .u8 0, .int .u8 0, .int .u8 0, .int .u8 0, .int .u8 0, .int .u8 0, .int .u8 0, .int .u8 0, .int .u8 0, .int .u8 0, .int .u8 0, .int .u8 0, .int .u8 0, .int .u8 0, .int .u8 0, .int .u8 0, .int .u8 0, .int .u8 0, .int .u8 0, .int .u8 0, .int .u8 0, .int .u8 0] 28)) W6.heap.size 28 (byv (prefL (digest st) 0)).toArray := by
                  have h := Blk.new W6 28 #[.int .u8 0, .int .u8 0, .int .u8 0, .int .u8 0, .int .u8 0, .int .u8 0, .int .u8 0, .int .u8 0, .int .u8 0, .int .u8 0, .int .u8 0, .int .u8 0, .int .u8 0, .int .u8 0, .int .u8 0, .int .u8 0, .int .u8 0, .int .u8 0, .int .u8 0, .int .u8 0, .int .u8 0, .int .u8 0, .int .u8 0, .int .u8 0, .int .u8 0, .int .u8 0, .int .u8 0, .int .u8 0, .int .u8 0, .int .u8 0, .int .u8 0, .int .u8 0]
                  exact h
                have HD7 := Lib.hid hD7
                clear hsq hZ6 hB6 hst hlist hok hD7 hq hsh hgq
                go_wp2_with fail
                go_loopw [62] (fun i wr => ∃ k : Nat, k ≤ 32 ∧ i = .int .i64 k ∧ Blk wr W6.heap.size 28 (byv (prefL (digest st) k)).toArray ∧ Below W6.heap.size W6 wr) (fun i _ => 32 - (intOf i).toNat)
                case atStart => exact ⟨0, by omega, rfl, HD7.out, (Below.refl _ _).alloc (Nat.le_refl _) _⟩
                case round =>
                  obtain ⟨k, hk, rfl, hdk, hbk⟩ := hrel
                  by_cases hk32 : k < 32
                  · have qk : (k : Int) < 32 := by omega
                    obtain ⟨a, ha⟩ : ∃ a, k / 4 = a := ⟨_, rfl⟩
                    obtain ⟨b, hb⟩ : ∃ a, k % 4 = a := ⟨_, rfl⟩
                    obtain ⟨s, hs⟩ : ∃ s, 24 - 8 * b = s := ⟨_, rfl⟩
                    have u1 : Int.tdiv (k : Int) 4 = (a : Int) := by rw [Int.tdiv_eq_ediv_of_nonneg (by omega)]; omega
                    have u2 : Int.tmod (k : Int) 4 = (b : Int) := by rw [Int.tmod_eq_emod_of_nonneg (by omega)]; omega
                    have u3 : IntKind.i64.wrap (a : Int) = a := IntWalk.i64_in _ (by omega)
                    have u4 : IntKind.i64.wrap (b : Int) = b := IntWalk.i64_in _ (by omega)
                    have u5 : IntKind.i64.wrap (8 * (b : Int)) = 8 * (b : Int) := IntWalk.i64_in _ (by omega)
                    have u6 : IntKind.i64.wrap (24 - 8 * (b : Int)) = (s : Int) := by rw [show (24 - 8 * (b : Int)) = (s : Int) by omega]; exact IntWalk.i64_in _ (by omega)
                    have u7 : (a : Int) < 8 := by omega
                    have cs := (HS6.out.below hbk lW6).cell a
                    rw [St.vals_list, list_cell (by simp [St.list]; omega)] at cs
                    obtain ⟨x, hx⟩ : ∃ x, st.list.getD a 0 = x := ⟨_, rfl⟩
                    rw [hx] at cs
                    have lx : x < 4294967296 := hx ▸ HLI.out.getD a
                    have cd := hdk.cell k
                    rw [byv_get (by simp [prefL, digest]; omega)] at cd
                    have fd := hdk.frozen k
                    have Hdk := Lib.hid hdk
                    have Hbk := Lib.hid hbk
                    have Hx := Lib.hid hx
                    have Ha := Lib.hid ha
                    have Hb := Lib.hid hb
                    have Hs := Lib.hid hs
                    clear hdk hbk hx ha hb hs
                    go_wp2_with fail
                    go_roundw
                    case rel =>
                      refine ⟨k + 1, by omega, by go_num, ?_, Hbk.out.setCell (Nat.le_refl _) _⟩
                      have s24 : s ≤ 24 := by have := Hs.out; omega
                      have e : ((x : Int) / 2 ^ min s 32 % 256) = ((x / 2 ^ s % 256 : Nat) : Int) := by
                        rw [Nat.min_eq_left (by omega)]
                        push_cast
                        rfl
                      rw [e, ← prefL_set (L := digest st) (k := k) (v := x / 2 ^ s % 256) (by simp [digest]; omega) (by rw [digest_at st hk32, Ha.out, Hb.out, Hs.out, Hx.out])]
                      exact Hdk.out.set_ k _
                    case measure => simp [intOf]; omega
                  · have qk : ¬ (k : Int) < 32 := by omega
                    have hk' : k = (digest st).length := by simp [digest]; omega
                    rw [hk', prefL_all] at hdk
                    have hV : (byv (digest st)).length = 32 := by simp [byv, digest]
                    have hV1 := byv_one (digest st)
                    obtain ⟨V, hVV⟩ : ∃ V, byv (digest st) = V := ⟨_, rfl⟩
                    rw [hVV] at hdk hV hV1
                    have HRG := Lib.hid (rangeAt_blk hdk 0 V (fun j u h => by simpa using h))
                    have z7 := HZ6.out.below hbk (by omega)
                    have HV := Lib.hid hV
                    have HV1 := Lib.hid hV1
                    have HVV := Lib.hid hVV
                    have Hbk := Lib.hid hbk
                    have HI := Lib.hid (show (Tryd.prog.info? 28).map (·.size) = some V.length by rw [hV]; exact Tryd.dig_info)
                    clear hdk hV hV1 hVV hbk hk' hk32
                    go_wp2_with (first
                      | (refine load_mid_want rfl 28 (.tmp 11) rfl W6.heap.size 0 rfl V _ HRG.out Tryd.underlying28 rfl HI.out ?_)
                      | (refine wpList_store_row rfl 28 (.tmp 2) (.tmp 78) rfl w.heap.size V.toArray rfl rfl 28 _ z7 (by simpa using HI.out) (by simp [HV.out]) (by simpa using HV1.out) ?_))
                    have z8 := z7.setRow V.toArray
                    have HRZ := rangeAt_blk z8 0 V (fun j u h => by simpa using h)
                    refine bodyPost_ret (v := .agg V.toArray) (results_cell rfl rfl (run_loadVar_mid _ _ 0 _ V _ HRZ Tryd.underlying28 rfl HI.out)) rfl ⟨?_, below_setRow (HB6.out.trans (Hbk.out.mono (by omega))) (Nat.le_refl _) _⟩
                    rw [← HVV.out, ← HSH.out]
                    rfl

end Go.Proofs.YtamhggndcegndaaDoor
