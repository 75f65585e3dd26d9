/-
  life.Next: the states that may follow, in order, in new memory; deponentbook.Same at int; deponentlaw17.known: true.
-/
import Derived.Test.YtfgmhapbanbmfaaWords
import Derived.Test.YtfgmhapbanbmfaaLife
import Derived.Deep.DeepMust
namespace Go.Proofs.Ytfgmhapbanbmfaa
open Go.RowKit
set_option linter.unusedVariables false

theorem Try.int_info : (Try.prog.info? 3).map (fun i => (i.zero, i.size, i.bytes)) = some (some (.int .i64 0), 1, 8) := by kernel_rfl

/-- The states up to number k that may follow f. -/
def nextTo (f w : Int) : Nat → List Int
  | 0 => []
  | k + 1 => nextTo f w k ++ if mayB f (k + 1) w then [((k + 1 : Nat) : Int)] else []

theorem nextTo_len (f w : Int) : ∀ k, (nextTo f w k).length ≤ k
  | 0 => by simp [nextTo]
  | k + 1 => by
    have := nextTo_len f w k
    simp only [nextTo, List.length_append]
    split <;> simp <;> omega

def ints (l : List Int) : List Value := l.map (Value.int .i64)

theorem life_next (f n : Int) (w : World) :
    Calls Try.prog 12 #[.int .i64 f, .int .i64 n] w fun e w' => ∃ v, e = .returned v ∧ w'.ownsRow w.heap.size 3 1 v (nextTo f n 4).length (ints (nextTo f n 4)) ∧ Below w.heap.size w w' := by
  obtain ⟨i0, hi0, hz0, hz1, hz2⟩ := info_parts Try.int_info
  go_enter Try.func12, Try.ntmps12
  go_wp2
  go_loopw [5, 6] (fun v i wr => ∃ k : Nat, k ≤ 4 ∧ i = .int .i64 (k + 1) ∧ wr.ownsRow w.heap.size 3 1 v (nextTo f n k).length (ints (nextTo f n k)) ∧ Below w.heap.size w wr) (fun _ i _ => 5 - (intOf i).toNat)
  case atStart => exact ⟨0, by omega, rfl, ⟨by simp [ints, nextTo], .inl ⟨rfl, rfl⟩⟩, Below.refl _ _⟩
  case round =>
    obtain ⟨k, hk, rfl, hown, hb⟩ := hrel
    have hle := nextTo_len f n k
    by_cases hlt : k < 4
    · by_cases hm : mayB f (k + 1) n = true
      · go_wp2_with (first
          | (go_at_call 14; refine (life_may _ _ _ _).mono ?_; rintro e w' ⟨rfl, rfl⟩)
          | (at_builtin
             refine wpList_append_any _ rfl (.tmp 15) (.tmp 17) _ rfl w.heap.size 3 i0 _ 1 8 Try.underlying23 hi0 hz0 hz1 hz2 rfl (by omega) _ _ _ rfl (hown.alloc _) (wr.heap.size + 1) _ 1 1 [.int .i64 (k + 1)] rfl (Reads.new1 _ _ _) (by simp [Value.oneCell']) (by simp only [maxLen]; omega) (by omega) (by simp; have := hb.size; omega) ?_
             intro v1 w1 hown1 hg1 hat1))
        have hb1 := below_appended (hb.alloc hb.size _) (hown.alloc _) hg1 (Nat.le_refl _) (by simp; have := hb.size; omega)
        go_roundw
        case rel => exact ⟨k + 1, by omega, by go_num, by simpa [ints, nextTo, hm] using hown1, hb1⟩
        case measure => simp [intOf]; omega
      · have hm' : mayB f (k + 1) n = false := by simpa using hm
        clear hm
        go_wp2_with (go_at_call 14; refine (life_may _ _ _ _).mono ?_; rintro e w' ⟨rfl, rfl⟩)
        go_roundw
        case rel => exact ⟨k + 1, by omega, by go_num, by simpa [ints, nextTo, hm'] using hown, hb⟩
        case measure => simp [intOf]; omega
    · obtain rfl : k = 4 := by omega
      go_wp2
      go_ret
      exact ⟨_, rfl, hown, hb⟩

theorem reads_int {w : World} {B n k : Nat} {A : Option Addr} {xs : List Int} (h : Reads w B 1 A n (ints xs)) (hk : k < n) :
    ∃ (ad : Addr) (x : Int), A = some ad ∧ ad.block < B ∧ xs[k]? = some x ∧ w.cell? (ad.add k) = some (.int .i64 x) := by
  obtain ⟨ad, u, e, hb, hu, hc⟩ := h.at_ hk
  simp only [ints, List.getElem?_map, Option.map_eq_some_iff] at hu
  obtain ⟨x, hx, rfl⟩ := hu
  exact ⟨ad, x, e, hb, hx, hc⟩

theorem take_succ_eq {α : Type} {xs ys : List α} {k : Nat} {x : α} (h : xs.take k = ys.take k) (hx : xs[k]? = some x) (hy : ys[k]? = some x) : xs.take (k + 1) = ys.take (k + 1) := by
  rw [List.take_add_one, List.take_add_one, h, hx, hy]

theorem ne_of_at {α : Type} {xs ys : List α} {k : Nat} {x y : α} (hx : xs[k]? = some x) (hy : ys[k]? = some y) (hne : x ≠ y) : xs ≠ ys := by
  rintro rfl
  rw [hx] at hy
  exact hne (by injection hy)

/-- deponentbook.Same at int: are the lists the same? -/
theorem book_same_int (A B : Option Addr) (n m c d B1 B2 : Nat) (xs ys : List Int) (w : World) (ha : Reads w B1 1 A n (ints xs)) (hb : Reads w B2 1 B m (ints ys)) (hn : n ≤ maxLen) (hm : m ≤ maxLen) :
    Calls Try.prog 33 #[.slice A n c, .slice B m d] w fun e w' => e = .returned (.bool (decide (xs = ys))) ∧ ∃ k, w' = w.drewN k := by
  unfold maxLen at hn hm
  have lx : xs.length = n := by simpa [ints] using ha.1
  have ly : ys.length = m := by simpa [ints] using hb.1
  by_cases hnm : n = m
  · obtain rfl : n = m := hnm
    have hv : (((n : Int) != n)) = false := by simp
    clear hm
    go_enter Try.func33, Try.ntmps33
    go_wp2
    go_loopw [5] (fun i wr => ∃ k q : Nat, k ≤ n ∧ i = .int .i64 k ∧ wr = w.drewN q ∧ xs.take k = ys.take k) (fun i _ => n - (intOf i).toNat)
    case atStart => exact ⟨0, 0, by omega, rfl, rfl, rfl⟩
    case round =>
      obtain ⟨k, q, hk, rfl, rfl, heq⟩ := hrel
      have Heq := Lib.hid heq
      clear heq
      by_cases hlt : k < n
      · obtain ⟨ax, x, rfl, _, hx, hcx⟩ := reads_int ha hlt
        obtain ⟨ay, y, rfl, _, hy, hcy⟩ := reads_int hb hlt
        have Hx := Lib.hid hx
        have Hy := Lib.hid hy
        clear hx hy ha hb
        by_cases hxy : x = y
        · subst hxy
          have ht : (x != x) = false := by simp
          go_wp2_with fail
          go_quiet (fail)
          go_wp2
          go_roundw
          case rel => exact ⟨k + 1, _, by omega, by go_num, rfl, take_succ_eq Heq.out Hx.out Hy.out⟩
          case measure => simp [intOf]; omega
        · have ht : (x != y) = true := by simpa using hxy
          have Hn := Lib.hid hxy
          clear hxy
          go_wp2_with fail
          go_quiet (fail)
          go_wp2
          go_ret
          exact ⟨ret_bool (by simpa using ne_of_at Hx.out Hy.out Hn.out), _, World.drewN_drewN ..⟩
      · go_wp2
        go_ret
        exact ⟨ret_bool (by simpa [List.take_of_length_le (show xs.length ≤ k by omega), List.take_of_length_le (show ys.length ≤ k by omega)] using Heq.out), _, rfl⟩
  · have hne : decide (xs = ys) = false := by simp; rintro rfl; omega
    have hv : (((n : Int) != m)) = true := by simp; omega
    have H := Lib.hid hne; clear hne lx ly
    go_enter Try.func33, Try.ntmps33
    go_wp2
    go_ret
    exact ⟨ret_bool H.out.symm, 0, rfl⟩

theorem life_known (w : World) :
    Calls Try.prog 15 #[] w fun e w' => e = .returned (.bool true) ∧ Below w.heap.size w w' := by
  have k1 : mayB 1 4 0 = false := rfl
  have k2 : mayB 3 4 1 = false := rfl
  have k3 : mayB 2 4 1 = true := rfl
  have k4 : nextTo 3 0 4 = [2, 4] := rfl
  go_enter Try.func15, Try.ntmps15
  go_wp2_with (go_at_call 14; refine (life_may _ _ _ _).mono ?_; rintro e w' ⟨rfl, rfl⟩)
  refine (life_next _ _ _).mono ?_
  rintro e w1 ⟨v, rfl, hown, hb⟩
  rw [k4] at hown
  clear k4
  obtain ⟨A, c, rfl, hn, hm, hr⟩ := own_slice hown
  clear hown hn hm
  go_wp2_with fail
  have hr2 : Reads (w1.alloc (.cells #[.int .i64 2, .int .i64 4] 3)) (w1.heap.size + 1) 1 (some ⟨w1.heap.size, 0, none⟩) 2 (ints [2, 4]) := Reads.new w1 _ [.int .i64 2, .int .i64 4] 1 2 rfl
  refine (book_same_int _ _ _ _ _ _ _ _ [2, 4] [2, 4] _ (hr.alloc (Nat.le_refl _) _) hr2 (by simp [maxLen]) (by simp [maxLen])).mono ?_
  rintro e w2 ⟨rfl, q, rfl⟩
  go_wp2
  go_ret
  exact ⟨rfl, below_drewN (hb.alloc hb.size _) _⟩

end Go.Proofs.Ytfgmhapbanbmfaa
