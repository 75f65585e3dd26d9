/-
  deponentbook.Within; deponentlaw18.known.
-/
import Derived.Test.YtbkdccamimakoaaSame
import Derived.Lib.SlBytesConst
import Derived.Lib.SmallJoins
namespace Go.Proofs.Ytbkdccamimakoaa
open Go.RowKit
set_option linter.unusedVariables false

theorem tmod_facts (n m : Int) (hm : 0 < m) (hn : n < 0) : (n.tmod m = 0 ∧ n % m = 0) ∨ (-m < n.tmod m ∧ n.tmod m < 0 ∧ n % m = n.tmod m + m) := by
  have h1 : n.tmod m = n % m - ((if 0 ≤ n ∨ m ∣ n then 0 else m.natAbs : Nat) : Int) := Int.tmod_eq_emod
  have h2 := Int.emod_nonneg n (b := m) (by omega)
  have h3 := Int.emod_lt_of_pos n hm
  by_cases hd : m ∣ n
  · left
    have h4 := Int.emod_eq_zero_of_dvd hd
    rw [if_pos (.inr hd)] at h1
    omega
  · right
    have h4 : n % m ≠ 0 := fun h => hd (Int.dvd_of_emod_eq_zero h)
    rw [if_neg (by omega)] at h1
    omega

/-- A number brought into lo .. hi. -/
def within (n lo hi : Int) : Int := lo + n % (hi - lo + 1)

theorem within_bd (n lo hi : Int) (h : lo ≤ hi) : lo ≤ within n lo hi ∧ within n lo hi ≤ hi := by
  unfold within
  have h1 := Int.emod_nonneg n (b := hi - lo + 1) (by omega)
  have h2 := Int.emod_lt_of_pos n (show 0 < hi - lo + 1 by omega)
  omega

theorem book_within (n lo hi : Int) (w : World) (h0 : 0 ≤ lo) (h1 : lo ≤ hi) (h2 : hi ≤ 1000000) (n1 : -9223372036854775808 ≤ n) (n2 : n ≤ 9223372036854775807) :
    Calls Try.prog 6 #[.int .i64 n, .int .i64 lo, .int .i64 hi] w fun e w' => e = .returned (.int .i64 (within n lo hi)) ∧ w = w' := by
  have H : Hid (within n lo hi = lo + n % (hi - lo + 1)) := rfl
  by_cases hn : 0 ≤ n
  · have a1 := Int.emod_nonneg n (b := hi - lo + 1) (by omega)
    have a2 := Int.emod_lt_of_pos n (show 0 < hi - lo + 1 by omega)
    have hnn : ¬ n % (hi - lo + 1) < 0 := by omega
    go_enter Try.func6, Try.ntmps6
    go_wp2
    go_ret
    exact ⟨ret_num (by rw [H.out]), rfl⟩
  · have hm : 0 < hi - lo + 1 := by omega
    rcases tmod_facts n (hi - lo + 1) hm (by omega) with ⟨e1, e2⟩ | ⟨e1, e2, e3⟩
    · have E2 := Lib.hid e2
      clear e2
      go_enter Try.func6, Try.ntmps6
      go_wp2
      go_ret
      exact ⟨ret_num (by rw [H.out, E2.out]; omega), rfl⟩
    · have E3 := Lib.hid e3
      clear e3
      go_enter Try.func6, Try.ntmps6
      go_wp2
      go_ret
      exact ⟨ret_num (by rw [H.out, E3.out]; omega), rfl⟩

/-- A struct's literal, whose cells are known. -/
theorem build_known {P : Program} {ops : Array Oper} {rest : List Oper} {o : Oper} {a : Act} {w : World} {Q : Exit → Act → World → Prop} (hg : o.guard = none) (t : TypeId) (parts : Array (Nat × Operand)) (ho : o.op = .build t parts)
    (l : List (Nat × Value)) (hl : (parts.map fun (i, x) => (i, a.eval x)).toList = l) (cs : Array Value) (hb : P.built t l = some cs)
    (h : wpList P ops Q rest (a.put o.dst (.agg cs)) w) : wpList P ops Q (o :: rest) a w := by
  refine wpList_build hg t parts ho ?_ ?_
  · rw [hl, hb]; rfl
  · rw [hl, hb]; exact h

/-- The request with nothing. -/
def noReq : Req := ⟨0, 0, [], List.replicate 32 0, 0, 0, 0, 0, 0, 0, 0, 0, 0, 0, 0, 0, []⟩

theorem num_le (R : Req) (M : Int) (h0 : 0 ≤ M) (h1 : R.tree ≤ M) (h2 : R.tenant ≤ M) (h3 : R.role ≤ M) (h4 : R.state ≤ M) (h5 : R.weight ≤ M) (h6 : (R.id : Int) ≤ M) (h7 : (R.lo : Int) ≤ M) (h8 : (R.hi : Int) ≤ M) (h9 : (R.rate : Int) ≤ M) (h10 : (R.burst : Int) ≤ M) (h11 : (R.store : Int) ≤ M) (h12 : (R.expires : Int) ≤ M) (o : Nat) : R.num o ≤ M := by
  unfold Req.num
  split <;> assumption

theorem noReq_fit (op tree : Int) (leaf : List Nat) (ht : tree ≤ 255) : ({ noReq with op := op, tree := tree, leaf := leaf } : Req).Fit :=
  ⟨rfl, fun o => Int.lt_of_le_of_lt (num_le _ 255 (by decide) ht (by simp [noReq]) (by simp [noReq]) (by simp [noReq]) (by simp [noReq]) (by simp [noReq]) (by simp [noReq]) (by simp [noReq]) (by simp [noReq]) (by simp [noReq]) (by simp [noReq]) (by simp [noReq]) o) (by decide)⟩

theorem reads_marked (w : World) (b : Nat) (fr : Nat × Nat) : Reads (w.alloc (.cells #[.int .u8 (b : Int)] 5 fr)) (w.alloc (.cells #[.int .u8 (b : Int)] 5 fr)).heap.size 1 (some ⟨w.heap.size, 0, none⟩) 1 (byv [b]) := by
  refine ⟨rfl, fun _ => ⟨_, rfl, by simp, fun j u hu => ?_⟩⟩
  rw [Addr.add_mid, Joins.cell_alloc_mark_at w _ _ _ _ _ rfl]
  simpa [byv] using hu

set_option maxRecDepth 100000 in
set_option maxHeartbeats 2000000 in
theorem known18 (w : World) : Calls Try.prog 10 #[] w fun e w' => e = .returned (.bool true) ∧ Below w.heap.size w w' := by
  have r0 : bodyRes { noReq with op := 2, tree := 3 } = (0, [2, 3]) := by kernel_rfl
  have r1 : bodyRes { noReq with op := 1, tree := 1, leaf := [97] } = (0, [1, 1, 0, 1, 97]) := by kernel_rfl
  have k0 := fun w' h => request_body { noReq with op := 2, tree := 3 } (.slice none 0 0) none 0 w' (noReq_fit _ _ _ (by omega)) h (Nat.le_refl _) (by simp [maxLen])
  have k1 := fun A w' h => request_body { noReq with op := 1, tree := 1, leaf := [97] } (.slice none 0 0) (some A) 1 w' (noReq_fit _ _ _ (by omega)) h (Nat.le_refl _) (by simp [maxLen])
  have e0 : (reqv { noReq with op := 2, tree := 3 } (.slice none 0 0) (.slice none ({ noReq with op := 2, tree := 3 } : Req).leaf.length 0)).toArray = #[.int .i64 2, .int .u32 0, .slice none 0 0, .int .u8 0, .int .u8 0, .int .u8 0, .int .u8 0, .int .u8 0, .int .u8 0, .int .u8 0, .int .u8 0, .int .u8 0, .int .u8 0, .int .u8 0, .int .u8 0, .int .u8 0, .int .u8 0, .int .u8 0, .int .u8 0, .int .u8 0, .int .u8 0, .int .u8 0, .int .u8 0, .int .u8 0, .int .u8 0, .int .u8 0, .int .u8 0, .int .u8 0, .int .u8 0, .int .u8 0, .int .u8 0, .int .u8 0, .int .u8 0, .int .u8 0, .int .u8 0, .int .i64 3, .int .i64 0, .int .i64 0, .int .i64 0, .int .i64 0, .int .u32 0, .int .u64 0, .int .u64 0, .int .u32 0, .int .u32 0, .int .u32 0, .int .u64 0, .slice none 0 0] := rfl
  have e1 : ∀ A, (reqv { noReq with op := 1, tree := 1, leaf := [97] } (.slice none 0 0) (.slice (some A) ({ noReq with op := 1, tree := 1, leaf := [97] } : Req).leaf.length 1)).toArray = #[.int .i64 1, .int .u32 0, .slice none 0 0, .int .u8 0, .int .u8 0, .int .u8 0, .int .u8 0, .int .u8 0, .int .u8 0, .int .u8 0, .int .u8 0, .int .u8 0, .int .u8 0, .int .u8 0, .int .u8 0, .int .u8 0, .int .u8 0, .int .u8 0, .int .u8 0, .int .u8 0, .int .u8 0, .int .u8 0, .int .u8 0, .int .u8 0, .int .u8 0, .int .u8 0, .int .u8 0, .int .u8 0, .int .u8 0, .int .u8 0, .int .u8 0, .int .u8 0, .int .u8 0, .int .u8 0, .int .u8 0, .int .i64 1, .int .i64 0, .int .i64 0, .int .i64 0, .int .i64 0, .int .u32 0, .int .u64 0, .int .u64 0, .int .u32 0, .int .u32 0, .int .u32 0, .int .u64 0, .slice (some A) 1 1] := fun _ => rfl
  simp only [r0] at k0
  simp only [r1] at k1
  simp only [e0] at k0
  simp only [e1] at k1
  have K0 := Lib.hid k0
  have K1 := Lib.hid k1
  clear r0 r1 k0 k1 e0 e1
  have hcv := fun (w : World) (C : Array Value) (n c : Nat) => Lib.run_convert_bytes_const (P := Try.prog) w 29 5 C n c Try.underlying29 Try.underlying5
  go_enter Try.func10, Try.ntmps10
  go_wp2_with fail
  refine (K0.out _ Reads.none_).mono ?_
  rintro e w1 ⟨v1, rfl, hown1, hb1⟩
  have hown1 : OwnB w1 w.heap.size v1 [2, 3] := hown1
  have hrA := reads_marked w1 97 (1, 2)
  go_wp2_with fail
  refine (K1.out _ _ hrA).mono ?_
  rintro e w2 ⟨v2, rfl, hown2, hb2⟩
  have hown2 : OwnB w2 _ v2 [1, 1, 0, 1, 97] := hown2
  have hb3 : Below w1.heap.size w1 w2 := ((Below.refl _ _).alloc (Nat.le_refl _) _).trans (hb2.mono (by simp))
  have hown3 := hown1.kept hb3
  obtain ⟨A1, n1, c1, rfl, -, -, hr1⟩ := hown3.sl
  obtain ⟨A2, n2, c2, rfl, -, -, hr2⟩ := hown2.sl
  have s1 : (convert 29 9 (.slice A1 n1 c1)).run Try.prog w2 = .ok (.string { data := #[2, 3] }) w2 := run_str hr1
  have s2 : (convert 29 9 (.slice A2 n2 c2)).run Try.prog w2 = .ok (.string { data := #[1, 1, 0, 1, 97] }) w2 := run_str hr2
  have HB := Lib.hid (hb1.trans (hb3.mono hb1.size))
  clear hrA hown1 hown2 hown3 hr1 hr2 hb1 hb2 hb3
  go_wp2
  go_ret
  exact ⟨rfl, HB.out⟩

end Go.Proofs.Ytbkdccamimakoaa
