/-
  token.Holds; deponentbook.Within; deponentlaw12.root.
-/
import Derived.Test.YtamhggndcegndaaDoorGen
namespace Go.Proofs.YtamhggndcegndaaDoor
open Go.RowKit
set_option linter.unusedVariables false
set_option maxRecDepth 100000

def holds1 (op tree : Int) (clock : Nat) (c : Int × Nat) : Bool :=
  if c.1 = 1 then tree == (c.2 : Int) else if c.1 = 2 then decide (op < (c.2 : Int)) else if c.1 = 3 then decide (clock < c.2) else false

def holdsB (op tree : Int) (clock : Nat) (l : List (Int × Nat)) : Bool := l.all (holds1 op tree clock)

theorem holds_none {op tree : Int} {clock : Nat} {l : List (Int × Nat)} {k : Nat} {c : Int × Nat} (hc : l[k]? = some c) (h : holds1 op tree clock c = false) : holdsB op tree clock l = false := by
  unfold holdsB
  rw [List.all_eq_false]
  exact ⟨c, List.mem_of_getElem? hc, by simp [h]⟩

theorem holds_step {op tree : Int} {clock : Nat} {l : List (Int × Nat)} {k : Nat} {c : Int × Nat} (hc : l[k]? = some c) (ha : holdsB op tree clock (l.take k) = true) (h : holds1 op tree clock c = true) : holdsB op tree clock (l.take (k + 1)) = true := by
  unfold holdsB at ha ⊢
  rw [List.take_add_one, hc]
  simp [List.all_append, ha, h]

-- END BY HAND
set_option maxHeartbeats 4000000 in
theorem token_holds (op tree : Int) (clock : Nat) (t : Tok) (A : Option Addr) (n c : Nat) (w : World) (hr : Reads w w.heap.size 2 A n (cavv t.2.1)) (hnc : n ≤ c) (hn : n ≤ 8796093022000) (ht : t.Ok) :
    Calls Tryd.prog 15 #[.agg (tokv t.1 (.slice A n c) t.2.2).toArray, .int .i64 op, .int .i64 tree, .int .u64 clock] w fun e w' => e = .returned (.bool (holdsB op tree clock t.2.1)) ∧ Below w.heap.size w w' := by
  have hl : t.2.1.length = n := by have := hr.1; rw [cavv_length] at this; omega
  have d1 : (tokv t.1 (.slice A n c) t.2.2)[1]? = some (.slice A n c) := rfl
  obtain ⟨D, hD⟩ : ∃ D, tokv t.1 (.slice A n c) t.2.2 = D := ⟨_, rfl⟩
  rw [hD] at d1 ⊢
  have c1 : (w.alloc (.cells D.toArray 30)).cell? ⟨w.heap.size, 1, none⟩ = some (.slice A n c) := by rw [cell_made, List.getElem?_toArray, d1]
  have HR := Lib.hid hr
  have Hl := Lib.hid hl
  have HtO := Lib.hid ht
  clear hD d1 hr hl ht
  go_enter Tryd.func15, Tryd.ntmps15
  go_wp2_with fail
  go_loopw [15] (fun i wr => ∃ k : Nat, k ≤ n ∧ i = .int .i64 k ∧ Hid (holdsB op tree clock (t.2.1.take k) = true) ∧ Hid (Below w.heap.size w wr)) (fun i _ => n - (intOf i).toNat)
  case atStart => exact ⟨0, by omega, rfl, by rw [List.take_zero]; exact rfl, below_new (Below.refl _ _) _⟩
  case round =>
    obtain ⟨k, hk, rfl, hg, hb⟩ := hrel
    by_cases hkn : k < n
    · have qk : (k : Int) < n := by omega
      obtain ⟨cav, hcav⟩ : ∃ c, t.2.1[k]? = some c := ⟨_, List.getElem?_eq_getElem (by rw [Hl.out]; exact hkn)⟩
      obtain ⟨gb, go, hA, hgb, hrd⟩ := HR.out.mid (by omega) (by omega)
      obtain ⟨e0, e1⟩ := cavv_at t.2.1 k cav hcav
      have m0 := (hb.out.cell (p := ⟨gb, go + k * 2, none⟩) hgb).trans (hrd _ _ e0)
      have m1 := (hb.out.cell (p := ⟨gb, go + (k * 2 + 1), none⟩) hgb).trans (hrd _ _ e1)
      subst hA
      obtain ⟨kk, NN⟩ := cav
      dsimp only at m0 m1
      rw [← Nat.add_assoc] at m1
      have HC := Lib.hid hcav
      have hN : NN < 4294967296 := HtO.out.2.1 (kk, NN) (List.mem_of_getElem? HC.out)
      have n1 : IntKind.i64.wrap (NN : Int) = NN := IntWalk.i64_in _ (by omega)
      have n2 : IntKind.u64.wrap (NN : Int) = NN := IntWalk.u64_in _ (by omega)
      clear e0 e1 hrd hcav c1
      by_cases q1 : kk = 1
      · subst q1
        by_cases hh : tree = NN
        · have Hh : Hid (holds1 op tree clock (1, NN) = true) := by simp [Hid, holds1, hh]
          subst hh
          go_wp2_with fail
          go_roundw
          case rel => exact ⟨k + 1, by omega, by go_num, holds_step HC.out hg.out Hh.out, below_new hb.out _⟩
          case measure => simp [intOf]; omega
        · have Hh : Hid (holds1 op tree clock (1, NN) = false) := by simp [Hid, holds1, hh]
          have hh2 : (tree == (NN : Int)) = false := by simpa using hh
          go_wp2_with fail
          go_ret
          exact ⟨by rw [holds_none HC.out Hh.out]; rfl, below_new hb.out _⟩
      · by_cases q2 : kk = 2
        · subst q2
          by_cases hh : op < NN
          · have Hh : Hid (holds1 op tree clock (2, NN) = true) := by simp [Hid, holds1, hh]
            go_wp2_with fail
            go_roundw
            case rel => exact ⟨k + 1, by omega, by go_num, holds_step HC.out hg.out Hh.out, below_new hb.out _⟩
            case measure => simp [intOf]; omega
          · have Hh : Hid (holds1 op tree clock (2, NN) = false) := by simp [Hid, holds1, hh]
            go_wp2_with fail
            go_ret
            exact ⟨by rw [holds_none HC.out Hh.out]; rfl, below_new hb.out _⟩
        · by_cases q3 : kk = 3
          · subst q3
            by_cases hh : clock < NN
            · have Hh : Hid (holds1 op tree clock (3, NN) = true) := by simp [Hid, holds1, hh]
              have hh' : (clock : Int) < NN := by omega
              go_wp2_with fail
              go_roundw
              case rel => exact ⟨k + 1, by omega, by go_num, holds_step HC.out hg.out Hh.out, below_new hb.out _⟩
              case measure => simp [intOf]; omega
            · have Hh : Hid (holds1 op tree clock (3, NN) = false) := by simp [Hid, holds1, hh]
              have hh' : ¬ (clock : Int) < NN := by omega
              go_wp2_with fail
              go_ret
              exact ⟨by rw [holds_none HC.out Hh.out]; rfl, below_new hb.out _⟩
          · have Hh : Hid (holds1 op tree clock (kk, NN) = false) := by simp [Hid, holds1, q1, q2, q3]
            go_wp2_with fail
            go_ret
            exact ⟨by rw [holds_none HC.out Hh.out]; rfl, below_new hb.out _⟩
    · have qk : ¬ (k : Int) < n := by omega
      have hg' := hg.out
      rw [List.take_of_length_le (by rw [Hl.out]; omega)] at hg'
      have HG := Lib.hid hg'
      clear hg'
      go_wp2_with fail
      go_ret
      exact ⟨by rw [HG.out]; rfl, hb.out⟩

end Go.Proofs.YtamhggndcegndaaDoor
