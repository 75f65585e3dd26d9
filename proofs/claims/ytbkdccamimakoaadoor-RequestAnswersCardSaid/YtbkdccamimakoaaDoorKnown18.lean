/-
  deponentbook.Within; deponentlaw18.known.
-/
import Derived.Test.YtbkdccamimakoaaDoorSame
import Derived.Test.YtbkdccamimakoaaDoorWithin
import Derived.Lib.SlBytesConst
import Derived.Lib.SmallJoins
namespace Go.Proofs.YtbkdccamimakoaaDoor
open Go.RowKit
set_option linter.unusedVariables false

/-- A struct's literal, whose cells are known. -/
theorem build_known {P : Program} {ops : Array Oper} {rest : List Oper} {o : Oper} {a : Act} {w : World} {Q : Exit → Act → World → Prop} (hg : o.guard = none) (t : TypeId) (parts : Array (Nat × Operand)) (ho : o.op = .build t parts)
    (l : List (Nat × Value)) (hl : (parts.map fun (i, x) => (i, a.eval x)).toList = l) (cs : Array Value) (hb : P.built t l = some cs)
    (h : wpList P ops Q rest (a.put o.dst (.agg cs)) w) : wpList P ops Q (o :: rest) a w := by
  refine wpList_build hg t parts ho ?_ ?_
  · rw [hl, hb]; rfl
  · rw [hl, hb]; exact h

/-- The request with nothing. -/
def noReq : Req := ⟨0, 0, [], List.replicate 32 0, 0, 0, 0, 0, 0, 0, 0, 0, 0, 0, 0, 0, []⟩

theorem num_le (R : Req) (M : Int) (h0 : 0 ≤ M) (h1 : R.tree ≤ M) (h2 : R.tenant ≤ M) (h3 : R.role ≤ M) (h4 : R.state ≤ M) (h5 : R.weight ≤ M) (h6 : (R.id : Int) ≤ M) (h7 : (R.lo : Int) ≤ M) (h8 : (R.hi : Int) ≤ M) (h9 : (R.rate : Int) ≤ M) (h10 : (R.burst : Int) ≤ M) (h11 : (R.store : Int) ≤ M) (h12 : (R.expires : Int) ≤ M) (o : Nat) : R.num o ≤ M := by
  unfold Req.num
  split <;> assumption

theorem noReq_fit (op tree : Int) (leaf : List Nat) (ht : tree ≤ 255) : ({ noReq with op := op, tree := tree, leaf := leaf } : Req).Fit :=
  ⟨rfl, fun o => Int.lt_of_le_of_lt (num_le _ 255 (by decide) ht (by simp [noReq]) (by simp [noReq]) (by simp [noReq]) (by simp [noReq]) (by simp [noReq]) (by simp [noReq]) (by simp [noReq]) (by simp [noReq]) (by simp [noReq]) (by simp [noReq]) (by simp [noReq]) o) (by decide)⟩

theorem reads_marked (w : World) (b : Nat) (fr : Nat × Nat) : Reads (w.alloc (.cells #[.int .u8 (b : Int)] 5 fr)) (w.alloc (.cells #[.int .u8 (b : Int)] 5 fr)).heap.size 1 (some ⟨w.heap.size, 0, none⟩) 1 (byv [b]) := by
  refine ⟨rfl, fun _ => ⟨_, rfl, by simp, fun j u hu => ?_⟩⟩
  rw [Addr.add_mid, Joins.cell_alloc_mark_at w _ _ _ _ _ rfl]
  simpa [byv] using hu

set_option maxRecDepth 100000 in
set_option maxHeartbeats 2000000 in
theorem known18 (w : World) : Calls Tryd.prog 13 #[] w fun e w' => e = .returned (.bool true) ∧ Below w.heap.size w w' := by
  have r0 : bodyRes { noReq with op := 2, tree := 3 } = (0, [2, 3]) := by kernel_rfl
  have r1 : bodyRes { noReq with op := 1, tree := 1, leaf := [97] } = (0, [1, 1, 0, 1, 97]) := by kernel_rfl
  have k0 := fun w' h => request_body { noReq with op := 2, tree := 3 } (.slice none 0 0) none 0 w' (noReq_fit _ _ _ (by omega)) h (Nat.le_refl _) (by simp [maxLen])
  have k1 := fun A w' h => request_body { noReq with op := 1, tree := 1, leaf := [97] } (.slice none 0 0) (some A) 1 w' (noReq_fit _ _ _ (by omega)) h (Nat.le_refl _) (by simp [maxLen])
  have e0 : (reqv { noReq with op := 2, tree := 3 } (.slice none 0 0) (.slice none ({ noReq with op := 2, tree := 3 } : Req).leaf.length 0)).toArray = #[.int .i64 2, .int .u32 0, .slice none 0 0, .int .u8 0, .int .u8 0, .int .u8 0, .int .u8 0, .int .u8 0, .int .u8 0, .int .u8 0, .int .u8 0, .int .u8 0, .int .u8 0, .int .u8 0, .int .u8 0, .int .u8 0, .int .u8 0, .int .u8 0, .int .u8 0, .int .u8 0, .int .u8 0, .int .u8 0, .int .u8 0, .int .u8 0, .int .u8 0, .int .u8 0, .int .u8 0, .int .u8 0, .int .u8 0, .int .u8 0, .int .u8 0, .int .u8 0, .int .u8 0, .int .u8 0, .int .u8 0, .int .i64 3, .int .i64 0, .int .i64 0, .int .i64 0, .int .i64 0, .int .u32 0, .int .u64 0, .int .u64 0, .int .u32 0, .int .u32 0, .int .u32 0, .int .u64 0, .slice none 0 0] := rfl
  have e1 : ∀ A, (reqv { noReq with op := 1, tree := 1, leaf := [97] } (.slice none 0 0) (.slice (some A) ({ noReq with op := 1, tree := 1, leaf := [97] } : Req).leaf.length 1)).toArray = #[.int .i64 1, .int .u32 0, .slice none 0 0, .int .u8 0, .int .u8 0, .int .u8 0, .int .u8 0, .int .u8 0, .int .u8 0, .int .u8 0, .int .u8 0, .int .u8 0, .int .u8 0, .int .u8 0, .int .u8 0, .int .u8 0, .int .u8 0, .int .u8 0, .int .u8 0, .int .u8 0, .int .u8 0, .int .u8 0, .int .u8 0, .int .u8 0, .int .u8 0, .int .u8 0, .int .u8 0, .int .u8 0, .int .u8 0, .int .u8 0, .int .u8 0, .int .u8 0, .int .u8 0, .int .u8 0, .int .u8 0, .int .i64 1, .int .i64 0, .int .i64 0, .int .i64 0, .int .i64 0, .int .u32 0, .int .u64 0, .int .u64 0, .int .u32 0, .int .u32 0, .int .u32 0, .int .u64 0, .slice (some A) 1 1] := fun _ => rfl
  simp only [r0] at k0
  simp only [r1] at k1
  simp only [e0] at k0
  simp only [e1] at k1
  have K0 := Lib.hid k0
  have K1 := Lib.hid k1
  clear r0 r1 k0 k1 e0 e1
  have hcv := fun (w : World) (C : Array Value) (n c : Nat) => Lib.run_convert_bytes_const (P := Tryd.prog) w 22 5 C n c Tryd.underlying22 Tryd.underlying5
  go_enter Tryd.func13, Tryd.ntmps13
  go_wp2_with fail
  refine (K0.out _ Reads.none_).mono ?_
  rintro e w1 ⟨v1, rfl, hown1, hb1⟩
  have hown1 : OwnB w1 w.heap.size v1 [2, 3] := hown1
  have hrA := reads_marked w1 97 (1, 2)
  go_wp2_with fail
  refine (K1.out _ _ hrA).mono ?_
  rintro e w2 ⟨v2, rfl, hown2, hb2⟩
  have hown2 : OwnB w2 _ v2 [1, 1, 0, 1, 97] := hown2
  have hb3 : Below w1.heap.size w1 w2 := ((Below.refl _ _).alloc (Nat.le_refl _) _).trans (hb2.mono (by simp))
  have hown3 := hown1.kept hb3
  obtain ⟨A1, n1, c1, rfl, -, -, hr1⟩ := hown3.sl
  obtain ⟨A2, n2, c2, rfl, -, -, hr2⟩ := hown2.sl
  have s1 : (convert 22 9 (.slice A1 n1 c1)).run Tryd.prog w2 = .ok (.string { data := #[2, 3] }) w2 := run_str hr1
  have s2 : (convert 22 9 (.slice A2 n2 c2)).run Tryd.prog w2 = .ok (.string { data := #[1, 1, 0, 1, 97] }) w2 := run_str hr2
  have HB := Lib.hid (hb1.trans (hb3.mono hb1.size))
  clear hrA hown1 hown2 hown3 hr1 hr2 hb1 hb2 hb3
  go_wp2
  go_ret
  exact ⟨rfl, HB.out⟩

end Go.Proofs.YtbkdccamimakoaaDoor
