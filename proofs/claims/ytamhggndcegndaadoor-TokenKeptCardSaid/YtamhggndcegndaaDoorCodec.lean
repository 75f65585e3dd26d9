/-
  codec.Writer: contracts. A Writer is a block of one cell, the slice that was written so far, which owns its row.
-/
import Derived.Test.YtamhggndcegndaaDoorChecked
import Derived.Test.YtamhggndcegndaaDoorWords
import Derived.Test.YtamhggndcegndaaDoorBytes
import Derived.Test.YtamhggndcegndaaDoorSeq
import Derived.BigQuiet
import Derived.WalkSpells
import Derived.Deep.RegionHeld3
namespace Go.Proofs.YtamhggndcegndaaDoor
open Go.RowKit
set_option linter.unusedVariables false

theorem Tryd.byte_info : (Tryd.prog.info? 5).map (fun i => (i.zero, i.size, i.bytes)) = some (some (.int .u8 0), 1, 1) := by kernel_rfl

/-- Block g is a Writer of the call's own (its row, too, lies from B on); so far these bytes are written. -/
def Wri (w : World) (B g : Nat) (bs : List Nat) : Prop := ∃ v, Blk w g 118 #[v] ∧ B ≤ g ∧ w.ownsRow B 5 1 v bs.length (byv bs)

/-- Between w and w' no block has turned but block g and rows of bytes. -/
def NB (w w' : World) (g : Nat) : Prop := w.heap.size ≤ w'.heap.size ∧ ∀ k, k < w.heap.size → k ≠ g → (∀ cs, w.heap[k]? ≠ some (.cells cs 5 (0, 0))) → w'.heap[k]? = w.heap[k]?

theorem NB.refl (w : World) (g : Nat) : NB w w g := ⟨Nat.le_refl _, fun _ _ _ _ => rfl⟩

theorem NB.trans {a b c : World} {g : Nat} (h : NB a b g) (k : NB b c g) : NB a c g :=
  ⟨Nat.le_trans h.1 k.1, fun i hi hg hn => by
    have e := h.2 i hi hg hn
    exact (k.2 i (Nat.lt_of_lt_of_le hi h.1) hg (by rw [e]; exact hn)).trans e⟩

theorem NB.drew {a b : World} {g : Nat} (h : NB a b g) : NB a b.drew g := h

theorem NB.below {a b : World} {g : Nat} (h : Below a.heap.size a b) : NB a b g := ⟨h.size, fun k hk _ _ => h.block k hk⟩

theorem NB.alloc {a b : World} {g : Nat} (h : NB a b g) (o : Obj) : NB a (b.alloc o) g := h.trans (NB.below ((Below.refl _ _).alloc (Nat.le_refl _) o))

theorem NB.setCell {a b : World} {g : Nat} (h : NB a b g) (i : Nat) (u : Value) : NB a (b.setCell ⟨g, i, none⟩ u) g :=
  h.trans ⟨by simp [World.setCell], fun k _ hk _ => Below.heap_setCell b ⟨g, i, none⟩ u k hk⟩

theorem NB.grown {a b c : World} {g B n : Nat} {v : Value} {xs : List Value} (h : NB a b g) (hown : b.ownsRow B 5 1 v n xs) (hg : b.grownBy c v.ownBlock) : NB a c g :=
  h.trans ⟨hg.size, fun k hk _ hn => hg.block k hk (fun e => by
    rcases hown.2 with ⟨rfl, _⟩ | ⟨q, cap, cur, rfl, _, hh, _⟩
    · simp [Value.ownBlock] at e
    · simp [Value.ownBlock] at e
      subst e
      exact hn cur hh)⟩

/-- A block of another kind is as it was. -/
theorem NB.blk {w w' : World} {g L : Nat} {t : TypeId} {cs : Array Value} (h : NB w w' g) (hL : Blk w L t cs) (ht : t ≠ 5) (hne : L ≠ g) : Blk w' L t cs := by
  refine (h.2 L hL.lt hne fun cs' e => ?_).trans hL
  unfold Blk at hL
  rw [hL] at e
  injection e with e
  injection e with _ e
  exact ht e

theorem ret_num {k : IntKind} {a b : Int} (h : a = b) : Ending.returned (.int k a) = .returned (.int k b) := by rw [h]

theorem codec_size (k : Int) (w : World) :
    Calls Tryd.prog 64 #[.int .i64 k] w fun e w' => e = .returned (.int .i64 (sizeN k)) ∧ w = w' := by
  by_cases h1 : k < 1
  · have H : Hid (((sizeN k : Nat) : Int) = 1) := by unfold Hid sizeN; omega
    go_enter Tryd.func64, Tryd.ntmps64
    go_wp2
    go_ret
    exact ⟨ret_num H.out.symm, rfl⟩
  · by_cases h8 : 8 < k
    · have H : Hid (((sizeN k : Nat) : Int) = 8) := by unfold Hid sizeN; omega
      go_enter Tryd.func64, Tryd.ntmps64
      go_wp2
      go_ret
      exact ⟨ret_num H.out.symm, rfl⟩
    · have H : Hid (((sizeN k : Nat) : Int) = k) := by unfold Hid sizeN; omega
      go_enter Tryd.func64, Tryd.ntmps64
      go_wp2
      go_ret
      exact ⟨ret_num H.out.symm, rfl⟩

theorem writer_number (B g n : Nat) (k : Int) (bs : List Nat) (w : World) (hw : Wri w B g bs) (hn : n < 18446744073709551616) (hl : bs.length ≤ 4294967296) :
    Calls Tryd.prog 37 #[.pointer (some ⟨g, 0, none⟩), .int .u64 n, .int .i64 k] w fun e w' => e = .returned (.tuple #[]) ∧ Wri w' B g (bs ++ be n (sizeN k)) ∧ Below B w w' ∧ NB w w' g := by
  obtain ⟨i0, hi0, hz0, hz1, hz2⟩ := info_parts Tryd.byte_info
  obtain ⟨hs1, hs8⟩ := sizeN_bd k
  go_enter Tryd.func37, Tryd.ntmps37
  go_wp2_with fail
  refine (codec_size _ _).mono ?_
  rintro e w' ⟨rfl, rfl⟩
  obtain ⟨s, hs⟩ : ∃ s, sizeN k = s := ⟨_, rfl⟩
  have Hs := Lib.hid hs
  rw [hs] at hs1 hs8 ⊢
  clear hs
  go_wp2
  go_loopw [6] (fun i wr => ∃ j m : Nat, s = j + m ∧ i = .int .i64 ((m : Int) - 1) ∧ Wri wr B g (bs ++ (be n s).take j) ∧ Below B w wr ∧ NB w wr g) (fun i _ => (intOf i + 1).toNat)
  case atStart => exact ⟨0, s, by omega, rfl, by simpa using hw, Below.refl _ _, NB.refl _ _⟩
  case round =>
    obtain ⟨j, m, hjm, rfl, hw2, hb, hnb⟩ := hrel
    clear hw
    cases m with
    | zero =>
      obtain rfl : j = s := by omega
      rw [List.take_of_length_le (by rw [be_length]; omega)] at hw2
      go_wp2
      go_end0
      exact ⟨rfl, by rw [Hs.out]; exact hw2, hb, hnb⟩
    | succ m =>
      have em : ((m + 1 : Nat) : Int) - 1 = m := by omega
      rw [em]
      clear em
      obtain ⟨v, hg, hBg, hown⟩ := hw2
      have hlj : (bs ++ (be n s).take j).length ≤ 4294967296 + 8 := by rw [List.length_append, List.length_take, be_length]; omega
      obtain ⟨L, hL⟩ : ∃ L, (bs ++ (be n s).take j).length = L := ⟨_, rfl⟩
      rw [hL] at hown hlj
      have HL := Lib.hid hL
      clear hL
      have hc := hg.cell 0
      have hf := hg.frozen 0
      simp at hc
      go_wp2_with fail
      have Hjm := Lib.hid hjm
      clear hjm
      have hm8 : m ≤ 7 := by have := Hjm.out; omega
      obtain ⟨S, HS⟩ : ∃ S : World → Prop, Hid (∀ w', S w' = (w'.cell? ⟨g, 0, none⟩ = some v)) := ⟨_, fun _ => rfl⟩
      refine wp_region_seq S 14 [(0, false), (1, false), (2, false), (3, false), (4, false), (5, false), (6, false), (7, false), (8, false), (9, false), (10, true), (11, true), (12, false), (13, false), (14, true)] (by kernel_rfl) rfl (by kernel_rfl) (by kernel_rfl) (by kernel_rfl) (fun _ _ d _ _ h => by cases d <;> exact h) ((HS.out _).mpr hc) ?_
      repeat (refine wpSeq_read rfl rfl ⟨?_, fun w1 hS => ?_, ?_⟩; rotate_left; (focus (rw [HS.out] at hS; go_split_ands; go_simp; (try go_bits); try rfl)); simp only [Act.put, List.setIfInBounds_toArray, List.set_cons_zero, List.set_cons_succ])
      refine wpSeq_write rfl rfl ?_
      go_simp
      refine ⟨(HS.out _).mpr (cell_new hc _), ?_⟩
      refine wpSeq_write rfl rfl ?_
      refine wp_append_any _ (.tmp 18) (.tmp 24) _ rfl B 5 i0 _ 1 1 Tryd.underlying57 hi0 hz0 hz1 hz2 rfl (by omega) v _ _ rfl (hown.alloc _) (wr.heap.size + 1) _ 1 1 _ rfl (Reads.new1 _ _ _) (by simp [Value.oneCell']) (by simp only [maxLen]; omega) (by omega) (by have := hg.lt; simp; omega) ?_
      intro v1 w1 hown1 hg1 hat1
      have hgw := (hg.alloc (.cells #[.int .u8 (n / 2 ^ (8 * m) % 256)] 5)).drew.grown hg1 (Ne.symm (own_blk_ne hown hg (by decide)))
      have hb1 := below_appended (hb.alloc (by have := hg.lt; omega) (.cells #[.int .u8 (n / 2 ^ (8 * m) % 256)] 5)).drew (hown.alloc _) hg1 (Nat.le_refl _) (by have := hg.lt; simp; omega)
      obtain ⟨A1, c1, rfl, -, -, -⟩ := own_slice hown1
      have hne1 := own_blk_ne hown1 hgw (by decide)
      have hc1 := hgw.cell 0
      have hf1 := hgw.frozen 0
      simp at hc1
      simp only [Act.put, List.setIfInBounds_toArray, List.set_cons_zero, List.set_cons_succ]
      refine ⟨fun _ => (HS.out _).mpr hc1, ?_⟩
      repeat (refine wpSeq_read rfl rfl ⟨?_, fun w1 hS => ?_, ?_⟩; rotate_left; (focus (rw [HS.out] at hS; go_split_ands; go_simp; (try go_bits); try rfl)); simp only [Act.put, List.setIfInBounds_toArray, List.set_cons_zero, List.set_cons_succ])
      refine wpSeq_write rfl rfl ?_
      go_simp
      refine wpSeq_nil ?_
      have HW : Hid (Wri (w1.setCell ⟨g, 0, none⟩ (.slice A1 (L + 1) c1)) B g (bs ++ (be n s).take (j + 1))) := by
        have e : s - 1 - j = m := by have := Hjm.out; omega
        rw [be_take n s j (by have := Hjm.out; omega), e, ← List.append_assoc]
        refine ⟨.slice A1 (L + 1) c1, by simpa using hgw.set_ 0 (.slice A1 (L + 1) c1), hBg, ?_⟩
        have := own_setCell_far hown1 (p := ⟨g, 0, none⟩) hne1 (.slice A1 (L + 1) c1)
        rw [show byteAt n m = n / 2 ^ (8 * m) % 256 from by unfold byteAt; rw [Nat.pow_mul]]
        rw [byv_append, List.length_append (bs := [_]), HL.out]
        simpa [byv] using this
      have HB := Lib.hid (hb1.setCell (p := ⟨g, 0, none⟩) hBg (.slice A1 (L + 1) c1))
      have HN := Lib.hid (((hnb.alloc (.cells #[.int .u8 (n / 2 ^ (8 * m) % 256)] 5)).drew.grown (hown.alloc _) hg1).setCell 0 (.slice A1 (L + 1) c1))
      clear hnb
      clear hb1 hne1 hown1 hgw hat1 hg1 hc1 hf1 hown hg hb hc hf HS hlj
      go_wp2
      go_roundw
      case rel => exact ⟨j + 1, m, by have := Hjm.out; omega, rfl, HW.out, HB.out, HN.out⟩
      case measure => simp [intOf]

theorem new_writer (w : World) :
    Calls Tryd.prog 36 #[] w fun e w' => e = .returned (.pointer (some ⟨w.heap.size, 0, none⟩)) ∧ Wri w' w.heap.size w.heap.size [] ∧ Below w.heap.size w w' := by
  go_enter Tryd.func36, Tryd.ntmps36
  go_wp2
  go_ret
  exact ⟨rfl, ⟨.slice none 0 0, Blk.new .., Nat.le_refl _, World.ownsRow_nil ..⟩, (Below.refl _ _).alloc (Nat.le_refl _) _⟩

/-- slices.Clone at []byte. -/
theorem clone_bytes (A : Option Addr) (n c B : Nat) (xs : List Value) (w : World) (hr : Reads w B 1 A n xs) (h1 : ∀ u ∈ xs, u.oneCell' = true) (hn : n ≤ 140737488355328) :
    Calls Tryd.prog 66 #[.slice A n c] w fun e w' => ∃ v, e = .returned v ∧ w'.ownsRow w.heap.size 5 1 v n xs ∧ Below w.heap.size w w' := by
  obtain ⟨i0, hi0, hz0, hz1, hz2⟩ := info_parts Tryd.byte_info
  have qn : ∀ (w : World) (a : Option Addr) (n c n' c' : Nat), (binOp .eql 57 (.slice a n c) (.slice none n' c')).run Tryd.prog w = .ok (.bool a.isNone) w := fun w a n c n' c' => Lib.run_eql_slice_nil w _ _ a n c n' c' Tryd.underlying57
  cases A with
  | none =>
    obtain rfl : n = 0 := by
      rcases Nat.eq_zero_or_pos n with h | h
      · exact h
      · obtain ⟨ad, e, _⟩ := hr.2 h
        cases e
    obtain rfl : xs = [] := List.eq_nil_of_length_eq_zero (by simpa using hr.1)
    go_enter Tryd.func66, Tryd.ntmps66
    go_wp2
    go_ret
    exact ⟨_, rfl, World.ownsRow_nil .., Below.refl _ _⟩
  | some ad =>
    go_enter Tryd.func66, Tryd.ntmps66
    go_wp2_with (at_builtin; refine wpList_append_any _ rfl (.tmp 5) (.tmp 6) _ rfl w.heap.size 5 i0 _ 1 1 Tryd.underlying57 hi0 hz0 hz1 hz2 rfl (by omega) _ 0 [] rfl (World.ownsRow_made w #[] 0 (Nat.le_refl _) (Nat.zero_le _) rfl) w.heap.size (some ad) n c xs rfl ?_ h1 (by simp only [maxLen]; omega) (by omega) (by simp) ?_)
    · exact hr.here.alloc (Nat.le_refl _) _
    · intro v1 w1 hown1 hg1 hat1
      go_wp2
      go_ret
      exact ⟨_, rfl, by simpa using hown1, below_appended ((Below.refl _ _).alloc (Nat.le_refl _) _) (World.ownsRow_made (size := 1) w #[] 0 (Nat.le_refl _) (Nat.zero_le _) rfl) hg1 (Nat.le_refl _) (by simp)⟩

theorem Wri.kept_call {w w1 : World} {B g : Nat} {bs : List Nat} (h : Wri w B g bs) (hb : Below w.heap.size w w1) : Wri w1 B g bs := by
  obtain ⟨v, hg, hB, ho⟩ := h
  exact ⟨v, hg.below hb hg.lt, hB, ho.kept ⟨hb.os, hb.tape, hb.output, hb.size, fun k hk _ => hb.block k hk⟩ (row := none) (by cases v.ownBlock <;> simp)⟩

theorem writer_done (B g : Nat) (bs : List Nat) (w : World) (hw : Wri w B g bs) (hl : bs.length ≤ 140737488355328) :
    Calls Tryd.prog 40 #[.pointer (some ⟨g, 0, none⟩)] w fun e w' => ∃ v, e = .returned v ∧ w'.ownsRow w.heap.size 5 1 v bs.length (byv bs) ∧ Below w.heap.size w w' := by
  obtain ⟨v, hg, hB, ho⟩ := hw
  have hc := hg.cell 0
  simp at hc
  obtain ⟨A, c, rfl, -, -, hr⟩ := own_slice ho
  clear ho
  go_enter Tryd.func40, Tryd.ntmps40
  go_wp2_with fail
  refine (clone_bytes A bs.length c w.heap.size (byv bs) w hr (byv_one _) hl).mono ?_
  rintro e w1 ⟨v1, rfl, hown1, hb1⟩
  go_wp2
  go_ret
  exact ⟨_, rfl, hown1, hb1⟩

/-- A Writer behind its own append: the new slice is stored. -/
theorem wri_step {w1 : World} {B g n c : Nat} {v : Value} {A : Option Addr} {bs : List Nat} (hg : Blk w1 g 118 #[v]) (hB : B ≤ g) (hown : w1.ownsRow B 5 1 (.slice A n c) n (byv bs)) : Wri (w1.setCell ⟨g, 0, none⟩ (.slice A n c)) B g bs := by
  have hn : bs.length = n := by have := hown.1; simpa [byv] using this
  subst hn
  exact ⟨.slice A bs.length c, by simpa using hg.set_ 0 (.slice A bs.length c), hB, own_setCell_far hown (p := ⟨g, 0, none⟩) (own_blk_ne hown hg (by decide)) _⟩

theorem writer_digest (B g : Nat) (bs d : List Nat) (w : World) (hw : Wri w B g bs) (hl : bs.length ≤ 4294967296) (hd : d.length = 32) :
    Calls Tryd.prog 49 #[.pointer (some ⟨g, 0, none⟩), .agg (byv d).toArray] w fun e w' => e = .returned (.tuple #[]) ∧ Wri w' B g (bs ++ d) ∧ Below B w w' ∧ NB w w' g := by
  obtain ⟨i0, hi0, hz0, hz1, hz2⟩ := info_parts Tryd.byte_info
  obtain ⟨v, hg, hBg, hown⟩ := hw
  obtain ⟨L, hL⟩ : ∃ L, bs.length = L := ⟨_, rfl⟩
  rw [hL] at hown hl
  have HL := Lib.hid hL
  have Hd := Lib.hid hd
  clear hL hd
  have hc1 := hg.cell 0
  have hf1 := hg.frozen 0
  simp at hc1
  have hbw : B ≤ w.heap.size := by have := hg.lt; omega
  obtain ⟨D, hD⟩ : ∃ D, (byv d).toArray = D := ⟨_, rfl⟩
  have HD := Lib.hid hD
  rw [hD]
  clear hD
  go_enter Tryd.func49, Tryd.ntmps49
  go_wp2_with fail
  have hr1 : Reads (w.alloc (.cells D 28)).drew (w.heap.size + 1) 1 (some ⟨w.heap.size, 0, none⟩) 32 (byv d) := by
    rw [← HD.out]
    exact Reads.new w _ (byv d) 1 32 (by rw [byv_length, Hd.out])
  have hg0 := (hg.alloc (.cells D 28)).drew
  have hown0 := hown.alloc (.cells D 28)
  obtain ⟨S, HS⟩ : ∃ S : World → Prop, Hid (∀ w', S w' = (w'.cell? ⟨g, 0, none⟩ = some v)) := ⟨_, fun _ => rfl⟩
  refine wp_region_seq S 9 [(0, false), (1, false), (2, false), (3, false), (4, false), (5, false), (6, true), (7, false), (8, false), (9, true)] (by kernel_rfl) rfl (by kernel_rfl) (by kernel_rfl) (by kernel_rfl) (fun _ _ d _ _ h => by cases d <;> exact h) ((HS.out _).mpr (cell_new hc1 _)) ?_
  repeat (refine wpSeq_read rfl rfl ⟨?_, fun w1 hS => ?_, ?_⟩; rotate_left; (focus (rw [HS.out] at hS; go_split_ands; go_simp; (try go_bits); try rfl)); simp only [Act.put, List.setIfInBounds_toArray, List.set_cons_zero, List.set_cons_succ])
  refine wpSeq_write rfl rfl ?_
  refine wp_append_any _ (.tmp 8) (.tmp 9) _ rfl B 5 i0 _ 1 1 Tryd.underlying57 hi0 hz0 hz1 hz2 rfl (by omega) v L (byv bs) rfl hown0 (w.heap.size + 1) _ 32 32 _ rfl hr1 (byv_one _) (by simp only [maxLen]; omega) (by omega) (by simp; omega) ?_
  intro v1 w2 hown1 hg1 hat1
  have hgw := hg0.grown hg1 (Ne.symm (own_blk_ne hown0 hg0 (by decide)))
  have hb1 := below_appended ((Below.refl B w).alloc hbw (.cells D 28)).drew hown0 hg1 (Nat.le_refl _) (by simp; omega)
  obtain ⟨A1, c1, rfl, -, -, -⟩ := own_slice hown1
  have hc2 := hgw.cell 0
  have hf2 := hgw.frozen 0
  simp at hc2
  simp only [Act.put, List.setIfInBounds_toArray, List.set_cons_zero, List.set_cons_succ]
  refine ⟨fun _ => (HS.out _).mpr hc2, ?_⟩
  repeat (refine wpSeq_read rfl rfl ⟨?_, fun w1 hS => ?_, ?_⟩; rotate_left; (focus (rw [HS.out] at hS; go_split_ands; go_simp; (try go_bits); try rfl)); simp only [Act.put, List.setIfInBounds_toArray, List.set_cons_zero, List.set_cons_succ])
  refine wpSeq_write rfl rfl ?_
  go_simp
  refine wpSeq_nil ?_
  have HW : Hid (Wri (w2.setCell ⟨g, 0, none⟩ (.slice A1 (L + 32) c1)) B g (bs ++ d)) := by
    refine wri_step hgw hBg ?_
    rw [byv_append]
    exact hown1
  have HB := Lib.hid (hb1.setCell (p := ⟨g, 0, none⟩) hBg (.slice A1 (L + 32) c1))
  have HN := Lib.hid ((((NB.refl w g).alloc (.cells D 28)).drew.grown hown0 hg1).setCell 0 (.slice A1 (L + 32) c1))
  clear hb1 hown1 hgw hat1 hg1 hc2 hf2 hown0 hg0 hown hg hc1 hf1 HS hr1
  go_wp2
  go_end0
  exact ⟨rfl, HW.out, HB.out, HN.out⟩

end Go.Proofs.YtamhggndcegndaaDoor
