/-
  deponentref2.Reader: contracts, against the same answers as codec.Reader's.
-/
import Derived.Test.YtamhggndcegndaaDoorIs
import Derived.Test.YtamhggndcegndaaDoorRef2
namespace Go.Proofs.YtamhggndcegndaaDoor
open Go.RowKit
set_option linter.unusedVariables false
set_option maxRecDepth 100000

/-- Block g is a deponentref2.Reader; its bytes lie ahead of it. -/
def RRd (w : World) (g : Nat) (bs : List Nat) (s : RSt) : Prop :=
  ∃ A n c, Blk w g 107 #[.slice A n c, .int .i64 (s.1 : Int), .int .i64 (whyOf s.2 : Nat), .int .i64 (atOf s.2 : Nat), .bool s.2.isSome] ∧ Reads w g 1 A n (byv bs) ∧ n = bs.length ∧ n ≤ c ∧ s.1 ≤ n ∧ n ≤ 140737488355328

theorem RRd.kept {w w' : World} {g k : Nat} {bs : List Nat} {s : RSt} (h : RRd w g bs s) (hg : w.grownBy w' (some k)) (hk : g < k) : RRd w' g bs s := by
  obtain ⟨A, n, c, hb, hr, rest⟩ := h
  exact ⟨A, n, c, hb.grown hg (by simp; omega), hr.grown hg (Nat.le_of_lt hb.lt) (by rintro _ ⟨rfl⟩; omega), rest⟩

theorem RRd.below {w w' : World} {g : Nat} {bs : List Nat} {s : RSt} (h : RRd w g bs s) (hb : Below w.heap.size w w') : RRd w' g bs s := by
  obtain ⟨A, n, c, hg, hr, rest⟩ := h
  exact ⟨A, n, c, hg.below hb hg.lt, hr.below (hb.mono (Nat.le_of_lt hg.lt)), rest⟩

theorem RRd.lt {w : World} {g : Nat} {bs : List Nat} {s : RSt} (h : RRd w g bs s) : g < w.heap.size := by
  obtain ⟨A, n, c, hg, -⟩ := h
  exact hg.lt

theorem rreader_refuse (g : Nat) (bs : List Nat) (s : RSt) (a y : Nat) (w : World) (h : RRd w g bs s) :
    Calls Tryd.prog 77 #[.pointer (some ⟨g, 0, none⟩), .int .i64 a, .int .i64 y] w fun e w' => e = .returned (.tuple #[]) ∧ RRd w' g bs (rRefuse s a y) ∧ w.grownBy w' (some g) := by
  obtain ⟨s1, s2⟩ := s
  obtain ⟨A, n, c, hg, hr, hn, hc, hs, hm⟩ := h
  have c4 := hg.cell 4
  rw [show (#[Value.slice A n c, .int .i64 (s1 : Int), .int .i64 (whyOf s2 : Nat), .int .i64 (atOf s2 : Nat), .bool s2.isSome] : Array Value)[4]? = some (.bool s2.isSome) from rfl] at c4
  have f4 := hg.frozen 4
  have f2 := hg.frozen 2
  have f3 := hg.frozen 3
  have k2 := hg.cell 2
  have k3 := hg.cell 3
  rw [show (#[Value.slice A n c, .int .i64 (s1 : Int), .int .i64 (whyOf s2 : Nat), .int .i64 (atOf s2 : Nat), .bool s2.isSome] : Array Value)[2]? = some (.int .i64 (whyOf s2 : Nat)) from rfl] at k2
  rw [show (#[Value.slice A n c, .int .i64 (s1 : Int), .int .i64 (whyOf s2 : Nat), .int .i64 (atOf s2 : Nat), .bool s2.isSome] : Array Value)[3]? = some (.int .i64 (atOf s2 : Nat)) from rfl] at k3
  have hlt := hg.lt
  have HG := Lib.hid hg
  have HR := Lib.hid hr
  clear hg hr
  cases s2 with
  | none =>
    rw [show (none : Option (Nat × Nat)).isSome = false from rfl] at c4
    go_enter Tryd.func77, Tryd.ntmps77
    go_wp2
    go_end0
    refine ⟨rfl, ⟨A, n, c, ?_, ?_, hn, hc, hs, hm⟩, ?_⟩
    · exact ((HG.out.set_ 4 (.bool true)).set_ 2 (.int .i64 (y : Int))).set_ 3 (.int .i64 (a : Int))
    · exact ((HR.out.setCell (p := ⟨g, 4, none⟩) (Nat.le_refl _) _).setCell (p := ⟨g, 2, none⟩) (Nat.le_refl _) _).setCell (p := ⟨g, 3, none⟩) (Nat.le_refl _) _
    · exact only_setCell (p := ⟨g, 3, none⟩) (only_setCell (p := ⟨g, 2, none⟩) (only_setCell (p := ⟨g, 4, none⟩) (World.grownBy.refl _ _) (.inl rfl) _) (.inl rfl) _) (.inl rfl) _
  | some x =>
    rw [show (some x).isSome = true from rfl] at c4
    go_enter Tryd.func77, Tryd.ntmps77
    go_wp2
    go_end0
    exact ⟨rfl, ⟨A, n, c, HG.out, HR.out, hn, hc, hs, hm⟩, World.grownBy.refl _ _⟩

theorem rreader_fail (g : Nat) (bs : List Nat) (s : RSt) (y : Nat) (w : World) (h : RRd w g bs s) (hy : y ≠ 0) :
    Calls Tryd.prog 58 #[.pointer (some ⟨g, 0, none⟩), .int .i64 y] w fun e w' => e = .returned (.tuple #[]) ∧ RRd w' g bs (rRefuse s s.1 y) ∧ w.grownBy w' (some g) := by
  have h' := h
  obtain ⟨A, n, c, hg, -⟩ := h'
  have c1 := hg.cell 1
  rw [show (#[Value.slice A n c, .int .i64 (s.1 : Int), .int .i64 (whyOf s.2 : Nat), .int .i64 (atOf s.2 : Nat), .bool s.2.isSome] : Array Value)[1]? = some (.int .i64 (s.1 : Int)) from rfl] at c1
  have hy' : ¬ (y : Int) = 0 := by omega
  have H := Lib.hid h
  clear h hg
  go_enter Tryd.func58, Tryd.ntmps58
  go_wp2_with fail
  refine (rreader_refuse g bs s s.1 y w H.out).mono ?_
  rintro e w1 ⟨rfl, h1, g1⟩
  go_wp2
  go_end0
  exact ⟨rfl, h1, g1⟩

theorem rreader_take (g : Nat) (bs : List Nat) (s : RSt) (m : Nat) (w : World) (h : RRd w g bs s) (hm1 : m ≤ 140737488355328) :
    Calls Tryd.prog 76 #[.pointer (some ⟨g, 0, none⟩), .int .i64 m] w fun e w' => ∃ A n c, e = .returned (.slice A n c) ∧ n ≤ c ∧ Reads w' g 1 A n (byv (rTake bs s m).2) ∧ RRd w' g bs (rTake bs s m).1 ∧ w.grownBy w' (some g) := by
  have h' := h
  obtain ⟨s1, s2⟩ := s
  obtain ⟨A, n, c, hg, hr, hn, hc, hs, hm⟩ := h'
  have c0 := hg.cell 0
  have c1 := hg.cell 1
  have c4 := hg.cell 4
  have f1 := hg.frozen 1
  rw [show (#[Value.slice A n c, .int .i64 (s1 : Int), .int .i64 (whyOf s2 : Nat), .int .i64 (atOf s2 : Nat), .bool s2.isSome] : Array Value)[0]? = some (.slice A n c) from rfl] at c0
  rw [show (#[Value.slice A n c, .int .i64 (s1 : Int), .int .i64 (whyOf s2 : Nat), .int .i64 (atOf s2 : Nat), .bool s2.isSome] : Array Value)[1]? = some (.int .i64 (s1 : Int)) from rfl] at c1
  rw [show (#[Value.slice A n c, .int .i64 (s1 : Int), .int .i64 (whyOf s2 : Nat), .int .i64 (atOf s2 : Nat), .bool s2.isSome] : Array Value)[4]? = some (.bool s2.isSome) from rfl] at c4
  have H := Lib.hid h
  have HG := Lib.hid hg
  have HO := Lib.hid hr
  have HN := Lib.hid hn
  clear hg hr h hn
  dsimp only at hs
  cases s2 with
  | some x =>
    rw [show (some x).isSome = true from rfl] at c4
    go_enter Tryd.func76, Tryd.ntmps76
    go_wp2
    go_ret
    exact ⟨none, 0, 0, rfl, Nat.le_refl _, Reads.none_, H.out, World.grownBy.refl _ _⟩
  | none =>
    rw [show (none : Option (Nat × Nat)).isSome = false from rfl] at c4
    obtain ⟨S, HS⟩ : ∃ S : World → Prop, Hid (∀ w', S w' = (w'.cell? ⟨g, 0, none⟩ = some (.slice A n c) ∧ w'.cell? ⟨g, 1, none⟩ = some (.int .i64 (s1 : Int)))) := ⟨_, fun _ => rfl⟩
    by_cases hmn : m ≤ n - s1
    · have q1 : ¬ (n : Int) - s1 < m := by omega
      have hr : rTake bs (s1, none) m = ((s1 + m, none), (bs.drop s1).take m) := by
        show (if m ≤ bs.length - s1 then _ else _) = _
        rw [← HN.out, if_pos hmn]
      have HR := Lib.hid hr
      have q2 : (s1 : Int) + m ≤ n := by omega
      clear hr
      go_enter Tryd.func76, Tryd.ntmps76
      go_wp2
      refine wp_region_seq S 12 [(0, false), (1, false), (2, false), (3, false), (4, false), (5, false), (6, false), (7, false), (8, false), (9, false), (10, false), (11, false)] (by kernel_rfl) rfl (by kernel_rfl) (by kernel_rfl) (by kernel_rfl) (fun _ _ d _ _ h => by cases d <;> exact h) ((HS.out _).mpr ⟨c0, c1⟩) ?_
      repeat (refine wpSeq_read rfl rfl ⟨?_, fun w1 hS => ?_, ?_⟩; rotate_left; (focus (rw [HS.out] at hS; go_split_ands; go_simp; (try go_bits); try rfl)); simp only [Act.put, List.setIfInBounds_toArray, List.set_cons_zero, List.set_cons_succ])
      refine wpSeq_nil ?_
      go_upto_region 6 with (fail)
      refine wp_region_seq S 16 [(0, false), (1, false), (2, false), (3, false), (4, false), (5, false), (6, false), (7, false), (8, false), (9, false), (10, false), (11, false), (12, false), (13, false), (14, false), (15, false)] (by kernel_rfl) rfl (by kernel_rfl) (by kernel_rfl) (by kernel_rfl) (fun _ _ d _ _ h => by cases d <;> exact h) ((HS.out _).mpr ⟨c0, c1⟩) ?_
      repeat (refine wpSeq_read rfl rfl ⟨?_, fun w1 hS => ?_, ?_⟩; rotate_left; (focus (rw [HS.out] at hS; go_split_ands; go_simp; (try go_bits); try rfl)); simp only [Act.put, List.setIfInBounds_toArray, List.set_cons_zero, List.set_cons_succ])
      obtain ⟨A2, hA2⟩ : ∃ A2, (if c = s1 then A else Option.map (fun x => x.add s1) A) = A2 := ⟨_, rfl⟩
      obtain ⟨C2, hC2⟩ : ∃ C2, c - s1 = C2 := ⟨_, rfl⟩
      refine wpSeq_read rfl rfl ⟨.slice A2 m C2, fun w1 hS => ?_, ?_⟩
      · rw [HS.out] at hS
        go_split_ands
        go_simp
        rw [if_pos ⟨by omega, by omega⟩, if_pos (by omega), show ((s1 : Int) + m).toNat - s1 = m by omega]
      have HA2 := Lib.hid hA2
      have HC2 := Lib.hid hC2
      clear hA2 hC2
      simp only [Act.put, List.setIfInBounds_toArray, List.set_cons_zero, List.set_cons_succ]
      repeat (refine wpSeq_read rfl rfl ⟨?_, fun w1 hS => ?_, ?_⟩; rotate_left; (focus (rw [HS.out] at hS; go_split_ands; go_simp; (try go_bits); try rfl)); simp only [Act.put, List.setIfInBounds_toArray, List.set_cons_zero, List.set_cons_succ])
      refine wpSeq_nil ?_
      go_wp2
      go_ret
      have rd2 := (HO.out.cut (k := s1) (cap := c) hs hc).pre (k := m) (by omega)
      rw [Nat.mul_one, HA2.out] at rd2
      refine ⟨A2, m, C2, rfl, by have := HC2.out; omega, ?_, ?_, ?_⟩
      · rw [HR.out, show byv ((bs.drop s1).take m) = ((byv bs).drop s1).take m by simp [byv]]
        exact rd2.setCell (p := ⟨g, 1, none⟩) (Nat.le_refl _) _
      · rw [HR.out]
        exact ⟨A, n, c, HG.out.set_ 1 (.int .i64 ((s1 : Int) + m)), HO.out.setCell (p := ⟨g, 1, none⟩) (Nat.le_refl _) _, HN.out, hc, by dsimp only; omega, hm⟩
      · exact only_drew (only_drew (only_setCell (g := g) (p := ⟨g, 1, none⟩) (World.grownBy.refl w _) (.inl rfl) _))
    · have q1 : (n : Int) - s1 < m := by omega
      have hr : rTake bs (s1, none) m = ((s1, some (n, 10)), []) := by
        show (if m ≤ bs.length - s1 then _ else _) = _
        rw [← HN.out, if_neg hmn]
      have HR := Lib.hid hr
      clear hr
      go_enter Tryd.func76, Tryd.ntmps76
      go_wp2
      refine wp_region_seq S 12 [(0, false), (1, false), (2, false), (3, false), (4, false), (5, false), (6, false), (7, false), (8, false), (9, false), (10, false), (11, false)] (by kernel_rfl) rfl (by kernel_rfl) (by kernel_rfl) (by kernel_rfl) (fun _ _ d _ _ h => by cases d <;> exact h) ((HS.out _).mpr ⟨c0, c1⟩) ?_
      repeat (refine wpSeq_read rfl rfl ⟨?_, fun w1 hS => ?_, ?_⟩; rotate_left; (focus (rw [HS.out] at hS; go_split_ands; go_simp; (try go_bits); try rfl)); simp only [Act.put, List.setIfInBounds_toArray, List.set_cons_zero, List.set_cons_succ])
      refine wpSeq_nil ?_
      go_wp2_with fail
      refine (rreader_refuse g bs (s1, none) n 10 w.drew H.out).mono ?_
      rintro _ w1 ⟨rfl, h1, g1⟩
      go_wp2
      go_ret
      exact ⟨none, 0, 0, rfl, Nat.le_refl _, by rw [HR.out]; exact Reads.none_, by rw [HR.out]; exact h1, ⟨g1.os, g1.tape, g1.output, g1.size, g1.block⟩⟩

theorem rreader_number (g : Nat) (bs : List Nat) (s : RSt) (k : Int) (w : World) (h : RRd w g bs s) (hb : ∀ x ∈ bs, x < 256) :
    Calls Tryd.prog 57 #[.pointer (some ⟨g, 0, none⟩), .int .i64 k] w fun e w' => e = .returned (.int .u64 (rNum bs s (sizeN k)).2) ∧ RRd w' g bs (rNum bs s (sizeN k)).1 ∧ w.grownBy w' (some g) := by
  obtain ⟨hs1, hs8⟩ := sizeN_bd k
  go_enter Tryd.func57, Tryd.ntmps57
  go_wp2_with fail
  refine (ref2_width _ _).mono ?_
  rintro e w' ⟨rfl, rfl⟩
  obtain ⟨z, hz⟩ : ∃ z, sizeN k = z := ⟨_, rfl⟩
  rw [hz] at hs1 hs8 ⊢
  have HZ := Lib.hid hz
  clear hz
  go_wp2_with fail
  refine (rreader_take g bs s z w h (by omega)).mono ?_
  rintro e w1 ⟨A, n, c, rfl, hnc, rd, h1, g1⟩
  have hlt := rTake_lt bs s z hb
  have hle := rTake_len bs s z
  have HX : Hid (rNum bs s z = ((rTake bs s z).1, num (rTake bs s z).2)) := rfl
  obtain ⟨T, hT⟩ : ∃ T, (rTake bs s z).2 = T := ⟨_, rfl⟩
  obtain ⟨s', hs'⟩ : ∃ T, (rTake bs s z).1 = T := ⟨_, rfl⟩
  rw [hT] at rd hlt hle HX
  rw [hs'] at h1 HX
  have hl := reads_bytes_le rd
  have hn8 : n ≤ 8 := by omega
  have HRD := Lib.hid rd
  have H1 := Lib.hid h1
  have G1 := Lib.hid g1
  have HL := Lib.hid hl
  clear rd h1 g1 hT hs' h hl
  go_wp2
  obtain ⟨wo, rfl⟩ : ∃ x, x = w1 := ⟨_, rfl⟩
  go_loopw [5, 13] (fun v i wr => ∃ j : Nat, j ≤ n ∧ i = .int .i64 j ∧ v = .int .u64 (num (T.take j) : Nat) ∧ wr = wo) (fun _ i _ => n - (intOf i).toNat)
  case atStart => exact ⟨0, by omega, rfl, rfl, rfl⟩
  case round =>
    obtain ⟨j, hj, rfl, rfl, rfl⟩ := hrel
    by_cases hjn : j < n
    · have qk : (j : Int) < n := by omega
      obtain ⟨x, hx⟩ : ∃ x, T[j]? = some x := ⟨_, List.getElem?_eq_getElem (by rw [HL.out]; exact hjn)⟩
      obtain ⟨gb, go, hA, hgb, hrd⟩ := HRD.out.mid (by omega) (by omega)
      have m0 := hrd j (.int .u8 x) (by simp [byv, hx])
      subst hA
      have hx256 : x < 256 := hlt x (List.mem_of_getElem? hx)
      have hxx : IntKind.u64.wrap (x : Int) = x := IntWalk.u64_in _ (by omega)
      have hnl := num_lt (T.take j) (fun y hy => hlt y (List.mem_of_mem_take hy))
      have hpow : 256 ^ (T.take j).length ≤ 256 ^ 7 := Nat.pow_le_pow_right (by omega) (by rw [List.length_take]; have := HL.out; omega)
      have hnew : num (T.take (j + 1)) = num (T.take j) * 256 + x := by rw [List.take_add_one, hx]; exact num_append _ _
      obtain ⟨y, hy⟩ : ∃ y, num (T.take j) = y := ⟨_, rfl⟩
      rw [hy] at hnl hnew ⊢
      have hy56 : y < 72057594037927936 := by omega
      have HNEW := Lib.hid hnew
      clear hnl hpow hnew hy hrd hx
      have HJ := Lib.hid hjn
      go_wp2
      go_roundw
      case rel => exact ⟨j + 1, HJ.out, by go_num, by rw [HNEW.out]; push_cast; first | rfl | go_num, by first | rfl | trivial⟩
      case measure => have := HJ.out; simp [intOf]; omega
    · have qk : ¬ (j : Int) < n := by omega
      rw [List.take_of_length_le (by rw [HL.out]; omega)]
      go_wp2
      go_ret
      exact ⟨by rw [HZ.out, HX.out]; rfl, by rw [HZ.out, HX.out]; exact H1.out, G1.out⟩

theorem rreader_digest (g : Nat) (bs : List Nat) (s : RSt) (w : World) (h : RRd w g bs s) :
    Calls Tryd.prog 59 #[.pointer (some ⟨g, 0, none⟩)] w fun e w' => e = .returned (.agg (byv (rDig bs s).2).toArray) ∧ RRd w' g bs (rDig bs s).1 ∧ w.grownBy w' (some g) := by
  have hX : rDig bs s = ((rTake bs s 32).1, (rTake bs s 32).2 ++ List.replicate (32 - (rTake bs s 32).2.length) 0) := rfl
  have hle := rTake_len bs s 32
  have T2 := fun w h => rreader_take g bs s 32 w h (by omega)
  obtain ⟨T, hT⟩ : ∃ T, (rTake bs s 32).2 = T := ⟨_, rfl⟩
  obtain ⟨s', hs'⟩ : ∃ T, (rTake bs s 32).1 = T := ⟨_, rfl⟩
  rw [hT] at hle
  rw [hT, hs'] at hX
  simp only [hT, hs'] at T2
  have HX := Lib.hid hX
  have HT2 := Lib.hid T2
  have H := Lib.hid h
  have hlt := h.lt
  clear hX T2 hT hs' h
  obtain ⟨W0, hW0⟩ : ∃ x, x = (w.alloc (.cells #[.int .u8 0, .int .u8 0, .int .u8 0, .int .u8 0, .int .u8 0, .int .u8 0, .int .u8 0, .int .u8 0, .int .u8 0, .int .u8 0, .int .u8 0, .int .u8 0, .int .u8 0, .int .u8 0, .int .u8 0, .int .u8 0, .int .u8 0, .int .u8 0, .int .u8 0, .int .u8 0, .int .u8 0, .int .u8 0, .int .u8 0, .int .u8 0, .int .u8 0, .int .u8 0, .int .u8 0, .int .u8 0, .int .u8 0, .int .u8 0, .int .u8 0, .int .u8 0] 28)).alloc (.cells #[.int .u8 0, .int .u8 0, .int .u8 0, .int .u8 0, .int .u8 0, .int .u8 0, .int .u8 0, .int .u8 0, .int .u8 0, .int .u8 0, .int .u8 0, .int .u8 0, .int .u8 0, .int .u8 0, .int .u8 0, .int .u8 0, .int .u8 0, .int .u8 0, .int .u8 0, .int .u8 0, .int .u8 0, .int .u8 0, .int .u8 0, .int .u8 0, .int .u8 0, .int .u8 0, .int .u8 0, .int .u8 0, .int .u8 0, .int .u8 0, .int .u8 0, .int .u8 0] 28) := ⟨_, rfl⟩
  have r0 : Blk W0 w.heap.size 28 #[.int .u8 0, .int .u8 0, .int .u8 0, .int .u8 0, .int .u8 0, .int .u8 0, .int .u8 0, .int .u8 0, .int .u8 0, .int .u8 0, .int .u8 0, .int .u8 0, .int .u8 0, .int .u8 0, .int .u8 0, .int .u8 0, .int .u8 0, .int .u8 0, .int .u8 0, .int .u8 0, .int .u8 0, .int .u8 0, .int .u8 0, .int .u8 0, .int .u8 0, .int .u8 0, .int .u8 0, .int .u8 0, .int .u8 0, .int .u8 0, .int .u8 0, .int .u8 0] := by rw [hW0]; exact (Blk.new w _ _).alloc _
  have d0 : Blk W0 (w.heap.size + 1) 28 #[.int .u8 0, .int .u8 0, .int .u8 0, .int .u8 0, .int .u8 0, .int .u8 0, .int .u8 0, .int .u8 0, .int .u8 0, .int .u8 0, .int .u8 0, .int .u8 0, .int .u8 0, .int .u8 0, .int .u8 0, .int .u8 0, .int .u8 0, .int .u8 0, .int .u8 0, .int .u8 0, .int .u8 0, .int .u8 0, .int .u8 0, .int .u8 0, .int .u8 0, .int .u8 0, .int .u8 0, .int .u8 0, .int .u8 0, .int .u8 0, .int .u8 0, .int .u8 0] := by
    have h := Blk.new (w.alloc (.cells #[.int .u8 0, .int .u8 0, .int .u8 0, .int .u8 0, .int .u8 0, .int .u8 0, .int .u8 0, .int .u8 0, .int .u8 0, .int .u8 0, .int .u8 0, .int .u8 0, .int .u8 0, .int .u8 0, .int .u8 0, .int .u8 0, .int .u8 0, .int .u8 0, .int .u8 0, .int .u8 0, .int .u8 0, .int .u8 0, .int .u8 0, .int .u8 0, .int .u8 0, .int .u8 0, .int .u8 0, .int .u8 0, .int .u8 0, .int .u8 0, .int .u8 0, .int .u8 0] 28)) 28 #[.int .u8 0, .int .u8 0, .int .u8 0, .int .u8 0, .int .u8 0, .int .u8 0, .int .u8 0, .int .u8 0, .int .u8 0, .int .u8 0, .int .u8 0, .int .u8 0, .int .u8 0, .int .u8 0, .int .u8 0, .int .u8 0, .int .u8 0, .int .u8 0, .int .u8 0, .int .u8 0, .int .u8 0, .int .u8 0, .int .u8 0, .int .u8 0, .int .u8 0, .int .u8 0, .int .u8 0, .int .u8 0, .int .u8 0, .int .u8 0, .int .u8 0, .int .u8 0]
    rw [alloc_size] at h
    rw [hW0]
    exact h
  have b0 : Below w.heap.size w W0 := by rw [hW0]; exact below_new (below_new (Below.refl _ _) _) _
  have R0 := Lib.hid r0
  have D0 := Lib.hid d0
  have B0 := Lib.hid b0
  have HW0 := Lib.hid hW0
  clear r0 d0 b0 hW0
  go_enter Tryd.func59, Tryd.ntmps59
  go_upto_region 2 with (fail)
  rw [← HW0.out]
  obtain ⟨S, HS⟩ : ∃ S : World → Prop, Hid (∀ w', S w') := ⟨fun _ => True, fun _ => trivial⟩
  refine wp_region_seq S 3 [(0, false), (1, false), (2, true), (3, true)] (by kernel_rfl) rfl (by kernel_rfl) (by kernel_rfl) (by kernel_rfl) (fun _ _ d _ _ h => by cases d <;> exact h) (HS.out _) ?_
  iterate 2 (refine wpSeq_read rfl rfl ⟨?_, fun w1 hS => ?_, ?_⟩; rotate_left; (focus (go_simp; (try go_bits); try rfl)); simp only [Act.put, List.setIfInBounds_toArray, List.set_cons_zero, List.set_cons_succ])
  refine wpSeq_write rfl rfl ?_
  go_simp
  refine (HT2.out W0.drew (H.out.below B0.out.drew)).mono ?_
  rintro e w1 ⟨A, n, c, rfl, hnc, rd, h1, g1⟩
  refine ⟨HS.out _, ?_⟩
  try simp only [Act.put, List.setIfInBounds_toArray, List.set_cons_zero, List.set_cons_succ]
  have hl := reads_bytes_le rd
  have d1 := D0.out.grown (w := W0.drew) g1 (by simp; omega)
  have r1 := R0.out.grown (w := W0.drew) g1 (by simp; omega)
  refine wpSeq_write rfl rfl ?_
  refine wp_copy_grown (.tmp 4) (.tmp 6) 57 57 rfl 5 (by kernel_rfl) (by kernel_rfl) _ _ _ _ _ _ rfl rfl (w.heap.size + 1) 0 (byv (List.replicate 32 0)) 28 d1 (byv T) (by rw [byv_length, hl]; show n = min n 32; omega) (fun h0 => ⟨rfl, ?_⟩) (by rw [byv_length, byv_length, List.length_replicate]; omega) (byv_one _) ?_
  · obtain ⟨ad, e, -, hc⟩ := rd.2 (by rw [byv_length] at h0; omega)
    exact ⟨ad, e, hc⟩
  intro w2 HG2 g2
  rw [show (byv T).length = n by rw [byv_length, hl]]
  refine ⟨fun _ => HS.out _, ?_⟩
  try simp only [Act.put, List.setIfInBounds_toArray, List.set_cons_zero, List.set_cons_succ]
  refine wpSeq_nil ?_
  have d2 : Blk w2 (w.heap.size + 1) 28 (byv (T ++ List.replicate (32 - T.length) 0)).toArray := by
    have h := HG2.out
    rw [byv_splice0] at h
    exact h
  have r2 := r1.grown g2 (by simp)
  have h2 : RRd w2 g bs s' := h1.kept g2 (by omega)
  obtain ⟨D, hD⟩ : ∃ D, T ++ List.replicate (32 - T.length) 0 = D := ⟨_, rfl⟩
  have lD : (byv D).length = 32 := by rw [byv_length, ← hD]; simp; omega
  have oD := byv_one D
  rw [hD] at d2 HX
  have HRG := Lib.hid (rangeAt_blk d2 0 (byv D) (fun j u h => by simpa using h))
  have HI := Lib.hid (show (Tryd.prog.info? 28).map (·.size) = some (byv D).length by rw [lD]; exact Tryd.dig_info)
  have HI' := Lib.hid (show (Tryd.prog.info? 28).map (·.size) = some (byv D).toArray.size by rw [List.size_toArray, lD]; exact Tryd.dig_info)
  have R2 := Lib.hid r2
  have D2 := Lib.hid d2
  have H2 := Lib.hid h2
  have G1 := Lib.hid g1
  have G2 := Lib.hid g2
  have LD := Lib.hid lD
  have OD := Lib.hid oD
  clear r2 d2 h2 g1 g2 d1 r1 lD oD rd h1 hD HG2
  go_wp2_with (first
    | (refine load_mid_want rfl 28 (.tmp 3) rfl (w.heap.size + 1) 0 rfl (byv D) _ HRG.out Tryd.underlying28 rfl HI.out ?_)
    | (refine wpList_store_row rfl 28 (.tmp 2) (.tmp 8) rfl w.heap.size (byv D).toArray rfl rfl 28 _ R2.out HI'.out (by simp [LD.out]) (by simpa using OD.out) ?_))
  have z8 := R2.out.setRow (byv D).toArray
  have HRZ := rangeAt_blk z8 0 (byv D) (fun j u h => by simpa using h)
  refine bodyPost_ret (v := .agg (byv D).toArray) (results_cell rfl rfl (run_loadVar_mid _ _ 0 _ (byv D) _ HRZ Tryd.underlying28 rfl (by simpa using HI.out))) rfl ⟨by rw [HX.out], ?_, ?_⟩
  · rw [HX.out]
    exact H2.out.kept (grown_setRow _ _ _) (by omega)
  · have q1 := only_trans (only_of_below B0.out.drew (some g)) (row := some g) G1.out (by simp)
    have q2 := only_trans q1 G2.out (by simp)
    exact only_trans q2 (grown_setRow w2 w.heap.size _) (by simp)

theorem rreader_end (g : Nat) (bs : List Nat) (s : RSt) (w : World) (h : RRd w g bs s) :
    Calls Tryd.prog 60 #[.pointer (some ⟨g, 0, none⟩)] w fun e w' => e = .returned (.tuple #[.int .i64 (atOf (rEnd bs s) : Nat), .int .i64 (whyOf (rEnd bs s) : Nat)]) ∧ Below w.heap.size w w' := by
  obtain ⟨s1, s2⟩ := s
  obtain ⟨A, n, c, hg, hr, hn, hc, hs, hm⟩ := h
  have c0 := hg.cell 0
  have c1 := hg.cell 1
  have c2 := hg.cell 2
  have c3 := hg.cell 3
  have c4 := hg.cell 4
  rw [show (#[Value.slice A n c, .int .i64 (s1 : Int), .int .i64 (whyOf s2 : Nat), .int .i64 (atOf s2 : Nat), .bool s2.isSome] : Array Value)[0]? = some (.slice A n c) from rfl] at c0
  rw [show (#[Value.slice A n c, .int .i64 (s1 : Int), .int .i64 (whyOf s2 : Nat), .int .i64 (atOf s2 : Nat), .bool s2.isSome] : Array Value)[1]? = some (.int .i64 (s1 : Int)) from rfl] at c1
  rw [show (#[Value.slice A n c, .int .i64 (s1 : Int), .int .i64 (whyOf s2 : Nat), .int .i64 (atOf s2 : Nat), .bool s2.isSome] : Array Value)[2]? = some (.int .i64 (whyOf s2 : Nat)) from rfl] at c2
  rw [show (#[Value.slice A n c, .int .i64 (s1 : Int), .int .i64 (whyOf s2 : Nat), .int .i64 (atOf s2 : Nat), .bool s2.isSome] : Array Value)[3]? = some (.int .i64 (atOf s2 : Nat)) from rfl] at c3
  rw [show (#[Value.slice A n c, .int .i64 (s1 : Int), .int .i64 (whyOf s2 : Nat), .int .i64 (atOf s2 : Nat), .bool s2.isSome] : Array Value)[4]? = some (.bool s2.isSome) from rfl] at c4
  dsimp only at hs
  cases s2 with
  | some x =>
    obtain ⟨a, y⟩ := x
    rw [show (some (a, y)).isSome = true from rfl] at c4
    rw [show atOf (some (a, y)) = a from rfl] at c3
    rw [show whyOf (some (a, y)) = y from rfl] at c2
    rw [show rEnd bs (s1, some (a, y)) = some (a, y) from rfl, show atOf (some (a, y)) = a from rfl, show whyOf (some (a, y)) = y from rfl]
    clear hg hr
    go_enter Tryd.func60, Tryd.ntmps60
    go_wp2
    obtain ⟨S, HS⟩ : ∃ S : World → Prop, Hid (∀ w', S w' = (w'.cell? ⟨g, 2, none⟩ = some (.int .i64 (y : Int)) ∧ w'.cell? ⟨g, 3, none⟩ = some (.int .i64 (a : Int)))) := ⟨_, fun _ => rfl⟩
    refine wp_region_seq S 10 [(0, false), (1, false), (2, false), (3, false), (4, false), (5, false), (6, false), (7, false), (8, false), (9, false)] (by kernel_rfl) rfl (by kernel_rfl) (by kernel_rfl) (by kernel_rfl) (fun _ _ d _ _ h => by cases d <;> exact h) ((HS.out _).mpr ⟨c2, c3⟩) ?_
    repeat (refine wpSeq_read rfl rfl ⟨?_, fun w1 hS => ?_, ?_⟩; rotate_left; (focus (rw [HS.out] at hS; go_split_ands; go_simp; (try go_bits); try rfl)); simp only [Act.put, List.setIfInBounds_toArray, List.set_cons_zero, List.set_cons_succ])
    refine wpSeq_nil ?_
    go_wp2
    go_ret2
    exact ⟨rfl, (Below.refl _ _).drew⟩
  | none =>
    rw [show (none : Option (Nat × Nat)).isSome = false from rfl] at c4
    obtain ⟨S, HS⟩ : ∃ S : World → Prop, Hid (∀ w', S w' = (w'.cell? ⟨g, 0, none⟩ = some (.slice A n c) ∧ w'.cell? ⟨g, 1, none⟩ = some (.int .i64 (s1 : Int)))) := ⟨_, fun _ => rfl⟩
    by_cases hlt2 : s1 < n
    · have q : (s1 : Int) < n := by omega
      have HE : rEnd bs (s1, none) = some (s1, 11) := by
        show (if s1 < bs.length then _ else _) = _
        rw [← hn, if_pos hlt2]
      rw [HE]
      clear hg hr hn HE
      go_enter Tryd.func60, Tryd.ntmps60
      go_wp2
      refine wp_region_seq S 10 [(0, false), (1, false), (2, false), (3, false), (4, false), (5, false), (6, false), (7, false), (8, false), (9, false)] (by kernel_rfl) rfl (by kernel_rfl) (by kernel_rfl) (by kernel_rfl) (fun _ _ d _ _ h => by cases d <;> exact h) ((HS.out _).mpr ⟨c0, c1⟩) ?_
      repeat (refine wpSeq_read rfl rfl ⟨?_, fun w1 hS => ?_, ?_⟩; rotate_left; (focus (rw [HS.out] at hS; go_split_ands; go_simp; (try go_bits); try rfl)); simp only [Act.put, List.setIfInBounds_toArray, List.set_cons_zero, List.set_cons_succ])
      refine wpSeq_nil ?_
      go_wp2
      go_ret2
      exact ⟨rfl, (Below.refl _ _).drew⟩
    · have q : ¬ (s1 : Int) < n := by omega
      have HE : rEnd bs (s1, none) = none := by
        show (if s1 < bs.length then _ else _) = _
        rw [← hn, if_neg hlt2]
      rw [HE]
      clear hg hr hn HE
      go_enter Tryd.func60, Tryd.ntmps60
      go_wp2
      refine wp_region_seq S 10 [(0, false), (1, false), (2, false), (3, false), (4, false), (5, false), (6, false), (7, false), (8, false), (9, false)] (by kernel_rfl) rfl (by kernel_rfl) (by kernel_rfl) (by kernel_rfl) (fun _ _ d _ _ h => by cases d <;> exact h) ((HS.out _).mpr ⟨c0, c1⟩) ?_
      repeat (refine wpSeq_read rfl rfl ⟨?_, fun w1 hS => ?_, ?_⟩; rotate_left; (focus (rw [HS.out] at hS; go_split_ands; go_simp; (try go_bits); try rfl)); simp only [Act.put, List.setIfInBounds_toArray, List.set_cons_zero, List.set_cons_succ])
      refine wpSeq_nil ?_
      go_wp2
      go_ret2
      exact ⟨rfl, (Below.refl _ _).drew⟩

end Go.Proofs.YtamhggndcegndaaDoor
