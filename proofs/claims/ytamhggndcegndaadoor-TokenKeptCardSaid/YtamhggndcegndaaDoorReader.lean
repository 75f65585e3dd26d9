/-
  codec.Reader: contracts. What a reader has read so far is where it stands, and its first refusal.
-/
import Derived.Test.YtamhggndcegndaaDoorCav
import Derived.Test.YtamhggndcegndaaDoorCopy
import Derived.Deep.Cut
namespace Go.Proofs.YtamhggndcegndaaDoor
open Go.RowKit
set_option linter.unusedVariables false
set_option maxRecDepth 100000

/-- Where a reader stands, and its refusal: where, and why. -/
abbrev RSt := Nat × Option (Nat × Nat)

def rRefuse (s : RSt) (a y : Nat) : RSt := match s.2 with
  | none => (s.1, some (a, y))
  | some _ => s

def rTake (bs : List Nat) (s : RSt) (n : Nat) : RSt × List Nat := match s.2 with
  | some _ => (s, [])
  | none => if n ≤ bs.length - s.1 then ((s.1 + n, none), (bs.drop s.1).take n) else ((s.1, some (bs.length, 10)), [])

/-- A number out of its bytes. -/
def num (l : List Nat) : Nat := l.foldl (fun n c => n * 256 + c) 0

def rNum (bs : List Nat) (s : RSt) (k : Nat) : RSt × Nat := ((rTake bs s k).1, num (rTake bs s k).2)

def rEnd (bs : List Nat) (s : RSt) : Option (Nat × Nat) := match s.2 with
  | some x => some x
  | none => if s.1 < bs.length then some (s.1, 11) else none

/-- A reader's refusal in memory. -/
def RNo (w : World) (B : Nat) (p : Option Addr) : Option (Nat × Nat) → Prop
  | none => p = none
  | some x => ∃ h, p = some ⟨h, 0, none⟩ ∧ B ≤ h ∧ Blk w h 113 #[.int .i64 (x.1 : Int), .int .i64 (x.2 : Int)]

/-- Block g is a Reader of the call's own (all of it lies from B on). -/
def Rd (w : World) (B g : Nat) (bs : List Nat) (s : RSt) : Prop :=
  ∃ A n c p, Blk w g 127 #[.slice A n c, .int .i64 (s.1 : Int), .pointer p] ∧ B ≤ g ∧ OwnB w B (.slice A n c) bs ∧ n = bs.length ∧ n ≤ c ∧ s.1 ≤ n ∧ n ≤ 140737488355328 ∧ RNo w B p s.2

theorem RNo.kept {w w' : World} {B : Nat} {p : Option Addr} {x : Option (Nat × Nat)} {row : Option Nat} (h : RNo w B p x) (hg : w.grownBy w' row) (hr : ∀ k cs, row = some k → ¬ Blk w k 113 cs) : RNo w' B p x := by
  cases x with
  | none => exact h
  | some x =>
    obtain ⟨k, e, hB, hk⟩ := h
    exact ⟨k, e, hB, hk.grown hg fun e => hr k _ e.symm hk⟩

theorem Rd.kept {w w' : World} {B g : Nat} {bs : List Nat} {s : RSt} {k : Nat} {t : TypeId} {cs : Array Value} (h : Rd w B g bs s) (hg : w.grownBy w' (some k)) (hk : Blk w k t cs) (h1 : t ≠ 113) (h2 : 5 ≠ t) (h3 : g ≠ k) : Rd w' B g bs s := by
  obtain ⟨A, n, c, p, hb, hB, ho, hn, hc, hs, hm, hp⟩ := h
  refine ⟨A, n, c, p, hb.grown hg (fun e => h3 (by injection e)), hB, World.ownsRow.kept ho hg (.inr (own_blk_ne ho hk h2)), hn, hc, hs, hm, hp.kept hg ?_⟩
  rintro k' cs' e hk'
  injection e with e
  subst e
  exact hk.ne_ hk' h1 rfl

theorem Rd.below {w w' : World} {B g : Nat} {bs : List Nat} {s : RSt} (h : Rd w B g bs s) (hb : Below w.heap.size w w') : Rd w' B g bs s := by
  obtain ⟨A, n, c, p, hg, hB, ho, hn, hc, hs, hm, hp⟩ := h
  exact ⟨A, n, c, p, hg.below hb hg.lt, hB, ho.kept hb, hn, hc, hs, hm, hp.kept (only_of_below hb none) (fun _ _ e => by cases e)⟩

theorem Rd.grown {w w' : World} {B g base : Nat} {bs : List Nat} {s : RSt} {v : Value} {l : List (Int × Nat)} (h : Rd w B g bs s) (ho : OwnC w base v l) (hg : w.grownBy w' v.ownBlock) : Rd w' B g bs s := by
  rcases ho.2 with ⟨rfl, _⟩ | ⟨q, cap, cur, rfl, _, hh, _⟩
  · exact h.below ⟨hg.os, hg.tape, hg.output, hg.size, fun k hk => hg.block k hk (by simp [Value.ownBlock])⟩
  · obtain ⟨A, n, c, p, hgb, -⟩ := id h
    exact h.kept (k := q) (by simpa [Value.ownBlock] using hg) (show Blk w q 37 cur from hh) (by decide) (by decide) (hgb.ne_ (show Blk w q 37 cur from hh) (by decide))

theorem Rd.lt {w : World} {B g : Nat} {bs : List Nat} {s : RSt} (h : Rd w B g bs s) : g < w.heap.size := by
  obtain ⟨A, n, c, p, hg, -⟩ := h
  exact hg.lt

theorem Rd.le {w : World} {B g : Nat} {bs : List Nat} {s : RSt} (h : Rd w B g bs s) : B ≤ g := by
  obtain ⟨A, n, c, p, hg, hB, -⟩ := h
  exact hB

theorem below_only {w w' : World} {g B : Nat} (h : w.grownBy w' (some g)) (hB : B ≤ g) (hg : g < w.heap.size) : Below B w w' :=
  ⟨h.os, h.tape, h.output, h.size, fun k hk => h.block k (by omega) (fun e => by injection e; omega)⟩

theorem reader_new (bs : List Nat) (A : Option Addr) (n c : Nat) (w : World) (hr : Reads w w.heap.size 1 A n (byv bs)) (hn : n ≤ 140737488355328) :
    Calls Tryd.prog 50 #[.slice A n c] w fun e w' => ∃ g, e = .returned (.pointer (some ⟨g, 0, none⟩)) ∧ Rd w' w.heap.size g bs (0, none) ∧ Below w.heap.size w w' := by
  have hl := reads_bytes_le hr
  go_enter Tryd.func50, Tryd.ntmps50
  go_wp2_with fail
  refine (clone_bytes A n c w.heap.size (byv bs) w hr (byv_one _) hn).mono ?_
  rintro e w1 ⟨v, rfl, own1, b1⟩
  obtain ⟨A1, c1, rfl, hc1, -, -⟩ := own_slice own1
  go_wp2
  go_ret
  subst hl
  exact ⟨_, rfl, ⟨A1, _, c1, none, Blk.new _ _ _, b1.size, OwnB.alloc own1 _, rfl, hc1, Nat.zero_le _, hn, rfl⟩, below_new b1 _⟩

theorem reader_refuse (B g : Nat) (bs : List Nat) (s : RSt) (a y : Nat) (w : World) (h : Rd w B g bs s) (hy : y ≠ 0) :
    Calls Tryd.prog 71 #[.pointer (some ⟨g, 0, none⟩), .int .i64 a, .int .i64 y] w fun e w' => e = .returned (.tuple #[]) ∧ Rd w' B g bs (rRefuse s a y) ∧ w.grownBy w' (some g) := by
  obtain ⟨s1, s2⟩ := s
  obtain ⟨A, n, c, p, hg, hB, ho, hn, hc, hs, hm, hp⟩ := h
  have c2 := hg.cell 2
  rw [show (#[Value.slice A n c, .int .i64 (s1 : Int), .pointer p] : Array Value)[2]? = some (.pointer p) from rfl] at c2
  have f2 := hg.frozen 2
  have hy' : ¬ (y : Int) = 0 := by omega
  have hlt := hg.lt
  have HG := Lib.hid hg
  have HO := Lib.hid ho
  clear hg ho
  cases s2 with
  | none =>
    obtain rfl : p = none := hp
    go_enter Tryd.func71, Tryd.ntmps71
    go_wp2
    go_end0
    refine ⟨rfl, ⟨A, n, c, some ⟨w.heap.size, 0, none⟩, ?_, hB, ?_, hn, hc, hs, hm, ?_⟩, ?_⟩
    · exact (HG.out.set_ 2 _).alloc _
    · exact (OwnB.far HO.out (p := ⟨g, 2, none⟩) (OwnB.blk_ne HO.out HG.out (by decide)) _).alloc _
    · exact ⟨_, rfl, by omega, by simpa using Blk.new (w.setCell ⟨g, 2, none⟩ (.pointer (some ⟨w.heap.size, 0, none⟩))) 113 #[.int .i64 (a : Int), .int .i64 (y : Int)]⟩
    · exact only_alloc (only_setCell (World.grownBy.refl _ _) (.inl rfl) _) _
  | some x =>
    obtain ⟨k, rfl, hk, hkb⟩ := hp
    have HK := Lib.hid hkb
    clear hkb
    go_enter Tryd.func71, Tryd.ntmps71
    go_wp2
    go_end0
    exact ⟨rfl, ⟨A, n, c, _, HG.out, hB, HO.out, hn, hc, hs, hm, ⟨k, rfl, hk, HK.out⟩⟩, World.grownBy.refl _ _⟩

theorem reader_fail (B g : Nat) (bs : List Nat) (s : RSt) (y : Nat) (w : World) (h : Rd w B g bs s) (hy : y ≠ 0) :
    Calls Tryd.prog 52 #[.pointer (some ⟨g, 0, none⟩), .int .i64 y] w fun e w' => e = .returned (.tuple #[]) ∧ Rd w' B g bs (rRefuse s s.1 y) ∧ w.grownBy w' (some g) := by
  have h' := h
  obtain ⟨A, n, c, p, hg, -⟩ := h'
  have c1 := hg.cell 1
  rw [show (#[Value.slice A n c, .int .i64 (s.1 : Int), .pointer p] : Array Value)[1]? = some (.int .i64 (s.1 : Int)) from rfl] at c1
  have H := Lib.hid h
  clear h hg
  go_enter Tryd.func52, Tryd.ntmps52
  go_wp2_with fail
  refine (reader_refuse B g bs s s.1 y w H.out hy).mono ?_
  rintro e w1 ⟨rfl, h1, g1⟩
  go_wp2
  go_end0
  exact ⟨rfl, h1, g1⟩

theorem reader_take (B g : Nat) (bs : List Nat) (s : RSt) (m : Nat) (w : World) (h : Rd w B g bs s) (hm1 : m ≤ 140737488355328) :
    Calls Tryd.prog 70 #[.pointer (some ⟨g, 0, none⟩), .int .i64 m] w fun e w' => ∃ A n c, e = .returned (.slice A n c) ∧ n ≤ c ∧ Reads w' w'.heap.size 1 A n (byv (rTake bs s m).2) ∧ Rd w' B g bs (rTake bs s m).1 ∧ w.grownBy w' (some g) := by
  have h' := h
  obtain ⟨s1, s2⟩ := s
  obtain ⟨A, n, c, p, hg, hB, ho, hn, hc, hs, hm, hp⟩ := h'
  have c0 := hg.cell 0
  have c1 := hg.cell 1
  have c2 := hg.cell 2
  have f1 := hg.frozen 1
  rw [show (#[Value.slice A n c, .int .i64 (s1 : Int), .pointer p] : Array Value)[0]? = some (.slice A n c) from rfl] at c0
  rw [show (#[Value.slice A n c, .int .i64 (s1 : Int), .pointer p] : Array Value)[1]? = some (.int .i64 (s1 : Int)) from rfl] at c1
  rw [show (#[Value.slice A n c, .int .i64 (s1 : Int), .pointer p] : Array Value)[2]? = some (.pointer p) from rfl] at c2
  have H := Lib.hid h
  have HG := Lib.hid hg
  have HO := Lib.hid ho
  have HN := Lib.hid hn
  have HP := Lib.hid hp
  clear hg ho h hn hp
  dsimp only at hs
  cases s2 with
  | some x =>
    obtain ⟨k, rfl, hk, hkb⟩ := HP.out
    clear hkb
    go_enter Tryd.func70, Tryd.ntmps70
    go_wp2
    go_ret
    exact ⟨none, 0, 0, rfl, Nat.le_refl _, Reads.none_, H.out, World.grownBy.refl _ _⟩
  | none =>
    obtain rfl : p = none := HP.out
    by_cases hmn : m ≤ n - s1
    · have q1 : ¬ (m : Int) > n - s1 := by omega
      have hr : rTake bs (s1, none) m = ((s1 + m, none), (bs.drop s1).take m) := by
        show (if m ≤ bs.length - s1 then _ else _) = _
        rw [← HN.out, if_pos hmn]
      have HR := Lib.hid hr
      have q2 : (s1 : Int) + m ≤ n := by omega
      clear hr
      go_enter Tryd.func70, Tryd.ntmps70
      go_wp2
      obtain ⟨S, HS⟩ : ∃ S : World → Prop, Hid (∀ w', S w' = (w'.cell? ⟨g, 0, none⟩ = some (.slice A n c) ∧ w'.cell? ⟨g, 1, none⟩ = some (.int .i64 (s1 : Int)))) := ⟨_, fun _ => rfl⟩
      refine wp_region_seq S 12 [(0, false), (1, false), (2, false), (3, false), (4, false), (5, false), (6, false), (7, false), (8, false), (9, false), (10, false), (11, false)] (by kernel_rfl) rfl (by kernel_rfl) (by kernel_rfl) (by kernel_rfl) (fun _ _ d _ _ h => by cases d <;> exact h) ((HS.out _).mpr ⟨c0, c1⟩) ?_
      repeat (refine wpSeq_read rfl rfl ⟨?_, fun w1 hS => ?_, ?_⟩; rotate_left; (focus (rw [HS.out] at hS; go_split_ands; go_simp; (try go_bits); try rfl)); simp only [Act.put, List.setIfInBounds_toArray, List.set_cons_zero, List.set_cons_succ])
      refine wpSeq_nil ?_
      go_upto_region 7 with (fail)
      obtain ⟨W1, hW1⟩ : ∃ x, x = w.setCell ⟨g, 1, none⟩ (.int .i64 ((s1 : Int) + m)) := ⟨_, rfl⟩
      have hd : (w.setCell ⟨g, 1, none⟩ (.int .i64 ((s1 : Int) + m))).drew = W1.drew := by rw [hW1]
      rw [hd]
      have hg1 := HG.out.set_ 1 (.int .i64 ((s1 : Int) + m))
      rw [← hW1] at hg1
      have k0 : W1.cell? ⟨g, 0, none⟩ = some (.slice A n c) := hg1.cell 0
      have k1 : W1.cell? ⟨g, 1, none⟩ = some (.int .i64 ((s1 : Int) + m)) := hg1.cell 1
      have e1 : (s1 : Int) + m - m = s1 := by omega
      clear c0 c1 c2 f1 HS
      obtain ⟨S', HS⟩ : ∃ S : World → Prop, Hid (∀ w', S w' = (w'.cell? ⟨g, 0, none⟩ = some (.slice A n c) ∧ w'.cell? ⟨g, 1, none⟩ = some (.int .i64 ((s1 : Int) + m)))) := ⟨_, fun _ => rfl⟩
      refine wp_region_seq S' 16 [(0, false), (1, false), (2, false), (3, false), (4, false), (5, false), (6, false), (7, false), (8, false), (9, false), (10, false), (11, false), (12, false), (13, false), (14, false), (15, false)] (by kernel_rfl) rfl (by kernel_rfl) (by kernel_rfl) (by kernel_rfl) (fun _ _ d _ _ h => by cases d <;> exact h) ((HS.out _).mpr ⟨k0, k1⟩) ?_
      repeat (refine wpSeq_read rfl rfl ⟨?_, fun w1 hS => ?_, ?_⟩; rotate_left; (focus (rw [HS.out] at hS; go_split_ands; go_simp; (try go_bits); try rfl)); simp only [Act.put, List.setIfInBounds_toArray, List.set_cons_zero, List.set_cons_succ])
      obtain ⟨A2, hA2⟩ : ∃ A2, (if c = s1 then A else Option.map (fun x => x.add s1) A) = A2 := ⟨_, rfl⟩
      obtain ⟨C2, hC2⟩ : ∃ C2, c - s1 = C2 := ⟨_, rfl⟩
      refine wpSeq_read rfl rfl ⟨.slice A2 m C2, fun w1 hS => ?_, ?_⟩
      · rw [HS.out] at hS
        go_split_ands
        go_simp
        rw [if_pos ⟨by omega, by omega⟩, if_pos (by omega), show ((s1 : Int) + m).toNat - s1 = m by omega]
      have HA2 := Lib.hid hA2
      have HC2 := Lib.hid hC2
      clear hA2 hC2
      simp only [Act.put, List.setIfInBounds_toArray, List.set_cons_zero, List.set_cons_succ]
      repeat (refine wpSeq_read rfl rfl ⟨?_, fun w1 hS => ?_, ?_⟩; rotate_left; (focus (rw [HS.out] at hS; go_split_ands; go_simp; (try go_bits); try rfl)); simp only [Act.put, List.setIfInBounds_toArray, List.set_cons_zero, List.set_cons_succ])
      refine wpSeq_nil ?_
      go_wp2
      go_ret
      have own1 : OwnB W1 B (.slice A n c) bs := by
        rw [hW1]
        exact OwnB.far HO.out (p := ⟨g, 1, none⟩) (OwnB.blk_ne HO.out HG.out (by decide)) _
      obtain ⟨A', c', e, -, -, rd⟩ := OwnB.slice own1
      rw [← HN.out] at e rd
      injection e with e _ _
      subst e
      have rd2 := (rd.cut (k := s1) (cap := c) hs hc).pre (k := m) (by omega)
      rw [Nat.mul_one] at rd2
      rw [HA2.out] at rd2
      refine ⟨A2, m, C2, rfl, by have := HC2.out; omega, ?_, ?_, ?_⟩
      · rw [HR.out, show byv ((bs.drop s1).take m) = ((byv bs).drop s1).take m by simp [byv]]
        exact rd2
      · rw [HR.out]
        exact ⟨A, n, c, none, hg1, hB, own1, HN.out, hc, by dsimp only; omega, hm, rfl⟩
      · rw [hW1]
        exact only_drew (only_drew (only_setCell (g := g) (p := ⟨g, 1, none⟩) (World.grownBy.refl w _) (.inl rfl) _))
    · have q1 : (m : Int) > n - s1 := by omega
      have hr : rTake bs (s1, none) m = ((s1, some (n, 10)), []) := by
        show (if m ≤ bs.length - s1 then _ else _) = _
        rw [← HN.out, if_neg hmn]
      have HR := Lib.hid hr
      clear hr
      go_enter Tryd.func70, Tryd.ntmps70
      go_wp2
      obtain ⟨S, HS⟩ : ∃ S : World → Prop, Hid (∀ w', S w' = (w'.cell? ⟨g, 0, none⟩ = some (.slice A n c) ∧ w'.cell? ⟨g, 1, none⟩ = some (.int .i64 (s1 : Int)))) := ⟨_, fun _ => rfl⟩
      refine wp_region_seq S 12 [(0, false), (1, false), (2, false), (3, false), (4, false), (5, false), (6, false), (7, false), (8, false), (9, false), (10, false), (11, false)] (by kernel_rfl) rfl (by kernel_rfl) (by kernel_rfl) (by kernel_rfl) (fun _ _ d _ _ h => by cases d <;> exact h) ((HS.out _).mpr ⟨c0, c1⟩) ?_
      repeat (refine wpSeq_read rfl rfl ⟨?_, fun w1 hS => ?_, ?_⟩; rotate_left; (focus (rw [HS.out] at hS; go_split_ands; go_simp; (try go_bits); try rfl)); simp only [Act.put, List.setIfInBounds_toArray, List.set_cons_zero, List.set_cons_succ])
      refine wpSeq_nil ?_
      go_wp2_with fail
      refine (reader_refuse B g bs (s1, none) n 10 w.drew H.out (by decide)).mono ?_
      rintro _ w1 ⟨rfl, h1, g1⟩
      go_wp2
      go_ret
      exact ⟨none, 0, 0, rfl, Nat.le_refl _, by rw [HR.out]; exact Reads.none_, by rw [HR.out]; exact h1, ⟨g1.os, g1.tape, g1.output, g1.size, g1.block⟩⟩

theorem num_append (l : List Nat) (c : Nat) : num (l ++ [c]) = num l * 256 + c := by simp [num]

theorem num_lt (l : List Nat) (h : ∀ x ∈ l, x < 256) : num l < 256 ^ l.length := by
  have key : ∀ k, num (l.take k) < 256 ^ (l.take k).length := by
    intro k
    induction k with
    | zero => simp [num]
    | succ k ih =>
      by_cases hk : k < l.length
      · rw [List.take_add_one, List.getElem?_eq_getElem hk, Option.toList_some, num_append, List.length_append]
        have := h _ (List.getElem_mem hk)
        rw [List.length_singleton, Nat.pow_succ]
        omega
      · rw [List.take_of_length_le (by omega)] at ih ⊢
        exact ih
  simpa [List.take_length] using key l.length

theorem or64 (n c : Nat) (hn : n < 72057594037927936) (hc : c < 256) : bits .or .u64 ((n : Int) * 256) (c : Int) = ((n * 256 + c : Nat) : Int) := by
  have e : n * 256 + c = (n * 256) ||| c := by
    have := Nat.two_pow_add_eq_or_of_lt (i := 8) (b := c) (by simpa using hc) n
    rw [Nat.mul_comm]
    exact this
  have h1 : (n * 256 : Nat) < 2 ^ 64 := by omega
  have h2 : ((n * 256) ||| c) < 2 ^ 64 := Nat.or_lt_two_pow h1 (by omega)
  rw [e, show ((n : Int) * 256) = ((n * 256 : Nat) : Int) by push_cast; rfl]
  show IntKind.u64.wrap ((BitVec.ofInt 64 ((n * 256 : Nat) : Int) ||| BitVec.ofInt 64 (c : Int)).toNat : Int) = _
  rw [BitVec.toNat_or, BitVec.ofInt_natCast, BitVec.ofInt_natCast, BitVec.toNat_ofNat, BitVec.toNat_ofNat, Nat.mod_eq_of_lt h1, Nat.mod_eq_of_lt (show c < 2 ^ 64 by omega), IntKind.wrap_u64]
  omega

theorem rTake_len (bs : List Nat) (s : RSt) (m : Nat) : (rTake bs s m).2.length ≤ m := by
  unfold rTake
  split
  · simp
  · split
    · simp; omega
    · simp

theorem rTake_lt (bs : List Nat) (s : RSt) (m : Nat) (h : ∀ x ∈ bs, x < 256) : ∀ x ∈ (rTake bs s m).2, x < 256 := by
  unfold rTake
  split
  · simp
  · split
    · intro x hx
      exact h x (List.mem_of_mem_drop (List.mem_of_mem_take hx))
    · simp

theorem rNum_lt (bs : List Nat) (s : RSt) (m : Nat) (h : ∀ x ∈ bs, x < 256) : (rNum bs s m).2 < 256 ^ m :=
  Nat.lt_of_lt_of_le (num_lt _ (rTake_lt bs s m h)) (Nat.pow_le_pow_right (by omega) (rTake_len bs s m))

theorem reader_number (B g : Nat) (bs : List Nat) (s : RSt) (k : Int) (w : World) (h : Rd w B g bs s) (hb : ∀ x ∈ bs, x < 256) :
    Calls Tryd.prog 51 #[.pointer (some ⟨g, 0, none⟩), .int .i64 k] w fun e w' => e = .returned (.int .u64 (rNum bs s (sizeN k)).2) ∧ Rd w' B g bs (rNum bs s (sizeN k)).1 ∧ w.grownBy w' (some g) := by
  obtain ⟨hs1, hs8⟩ := sizeN_bd k
  go_enter Tryd.func51, Tryd.ntmps51
  go_wp2_with fail
  refine (codec_size _ _).mono ?_
  rintro e w' ⟨rfl, rfl⟩
  obtain ⟨z, hz⟩ : ∃ z, sizeN k = z := ⟨_, rfl⟩
  rw [hz] at hs1 hs8 ⊢
  have HZ := Lib.hid hz
  clear hz
  go_wp2_with fail
  refine (reader_take B g bs s z w h (by omega)).mono ?_
  rintro e w1 ⟨A, n, c, rfl, hnc, rd, h1, g1⟩
  have hlt := rTake_lt bs s z hb
  have hle := rTake_len bs s z
  have HX : Hid (rNum bs s z = ((rTake bs s z).1, num (rTake bs s z).2)) := rfl
  obtain ⟨T, hT⟩ : ∃ T, (rTake bs s z).2 = T := ⟨_, rfl⟩
  obtain ⟨s', hs'⟩ : ∃ T, (rTake bs s z).1 = T := ⟨_, rfl⟩
  rw [hT] at rd hlt hle HX
  rw [hs'] at h1 HX
  have hl := reads_bytes_le rd
  have hn8 : n ≤ 8 := by omega
  have HRD := Lib.hid rd
  have H1 := Lib.hid h1
  have G1 := Lib.hid g1
  have HL := Lib.hid hl
  clear rd h1 g1 hT hs' h hl
  go_wp2
  obtain ⟨wo, rfl⟩ : ∃ x, x = w1 := ⟨_, rfl⟩
  go_loopw [5, 13] (fun v i wr => ∃ j : Nat, j ≤ n ∧ i = .int .i64 j ∧ v = .int .u64 (num (T.take j) : Nat) ∧ wr = wo) (fun _ i _ => n - (intOf i).toNat)
  case atStart => exact ⟨0, by omega, rfl, rfl, rfl⟩
  case round =>
    obtain ⟨j, hj, rfl, rfl, rfl⟩ := hrel
    by_cases hjn : j < n
    · have qk : (j : Int) < n := by omega
      obtain ⟨x, hx⟩ : ∃ x, T[j]? = some x := ⟨_, List.getElem?_eq_getElem (by rw [HL.out]; exact hjn)⟩
      obtain ⟨gb, go, hA, hgb, hrd⟩ := HRD.out.mid (by omega) (by omega)
      have m0 := hrd j (.int .u8 x) (by simp [byv, hx])
      subst hA
      have hx256 : x < 256 := hlt x (List.mem_of_getElem? hx)
      have hxx : IntKind.u64.wrap (x : Int) = x := IntWalk.u64_in _ (by omega)
      have hnl := num_lt (T.take j) (fun y hy => hlt y (List.mem_of_mem_take hy))
      have hpow : 256 ^ (T.take j).length ≤ 256 ^ 7 := Nat.pow_le_pow_right (by omega) (by rw [List.length_take]; have := HL.out; omega)
      have hnew : num (T.take (j + 1)) = num (T.take j) * 256 + x := by rw [List.take_add_one, hx]; exact num_append _ _
      obtain ⟨y, hy⟩ : ∃ y, num (T.take j) = y := ⟨_, rfl⟩
      rw [hy] at hnl hnew ⊢
      have hy56 : y < 72057594037927936 := by omega
      have hor := or64 y x hy56 hx256
      have HNEW := Lib.hid hnew
      clear hnl hpow hnew hy hrd hx
      have HJ := Lib.hid hjn
      go_wp2
      go_roundw
      case rel => exact ⟨j + 1, HJ.out, by go_num, by rw [HNEW.out]; push_cast; rfl, by first | rfl | trivial⟩
      case measure => have := HJ.out; simp [intOf]; omega
    · have qk : ¬ (j : Int) < n := by omega
      rw [List.take_of_length_le (by rw [HL.out]; omega)]
      go_wp2
      go_ret
      exact ⟨by rw [HZ.out, HX.out]; rfl, by rw [HZ.out, HX.out]; exact H1.out, G1.out⟩

/-- A hash read: noughts where there is none. -/
def rDig (bs : List Nat) (s : RSt) : RSt × List Nat := ((rTake bs s 32).1, (rTake bs s 32).2 ++ List.replicate (32 - (rTake bs s 32).2.length) 0)

theorem rDig_length (bs : List Nat) (s : RSt) : (rDig bs s).2.length = 32 := by
  have := rTake_len bs s 32
  simp [rDig]
  omega

theorem rDig_lt (bs : List Nat) (s : RSt) (h : ∀ x ∈ bs, x < 256) : ∀ x ∈ (rDig bs s).2, x < 256 := by
  intro x hx
  simp only [rDig, List.mem_append, List.mem_replicate] at hx
  rcases hx with hx | ⟨-, rfl⟩
  · exact rTake_lt bs s 32 h x hx
  · omega

theorem reader_digest (B g : Nat) (bs : List Nat) (s : RSt) (w : World) (h : Rd w B g bs s) :
    Calls Tryd.prog 53 #[.pointer (some ⟨g, 0, none⟩)] w fun e w' => e = .returned (.agg (byv (rDig bs s).2).toArray) ∧ Rd w' B g bs (rDig bs s).1 ∧ w.grownBy w' (some g) := by
  have hX : rDig bs s = ((rTake bs s 32).1, (rTake bs s 32).2 ++ List.replicate (32 - (rTake bs s 32).2.length) 0) := rfl
  have hle := rTake_len bs s 32
  have T2 := fun w h => reader_take B g bs s 32 w h (by omega)
  obtain ⟨T, hT⟩ : ∃ T, (rTake bs s 32).2 = T := ⟨_, rfl⟩
  obtain ⟨s', hs'⟩ : ∃ T, (rTake bs s 32).1 = T := ⟨_, rfl⟩
  rw [hT] at hle
  rw [hT, hs'] at hX
  simp only [hT, hs'] at T2
  have HX := Lib.hid hX
  have HT2 := Lib.hid T2
  have H := Lib.hid h
  have hlt := h.lt
  clear hX T2 hT hs' h
  obtain ⟨W0, hW0⟩ : ∃ x, x = (w.alloc (.cells #[.int .u8 0, .int .u8 0, .int .u8 0, .int .u8 0, .int .u8 0, .int .u8 0, .int .u8 0, .int .u8 0, .int .u8 0, .int .u8 0, .int .u8 0, .int .u8 0, .int .u8 0, .int .u8 0, .int .u8 0, .int .u8 0, .int .u8 0, .int .u8 0, .int .u8 0, .int .u8 0, .int .u8 0, .int .u8 0, .int .u8 0, .int .u8 0, .int .u8 0, .int .u8 0, .int .u8 0, .int .u8 0, .int .u8 0, .int .u8 0, .int .u8 0, .int .u8 0] 28)).alloc (.cells #[.int .u8 0, .int .u8 0, .int .u8 0, .int .u8 0, .int .u8 0, .int .u8 0, .int .u8 0, .int .u8 0, .int .u8 0, .int .u8 0, .int .u8 0, .int .u8 0, .int .u8 0, .int .u8 0, .int .u8 0, .int .u8 0, .int .u8 0, .int .u8 0, .int .u8 0, .int .u8 0, .int .u8 0, .int .u8 0, .int .u8 0, .int .u8 0, .int .u8 0, .int .u8 0, .int .u8 0, .int .u8 0, .int .u8 0, .int .u8 0, .int .u8 0, .int .u8 0] 28) := ⟨_, rfl⟩
  have r0 : Blk W0 w.heap.size 28 #[.int .u8 0, .int .u8 0, .int .u8 0, .int .u8 0, .int .u8 0, .int .u8 0, .int .u8 0, .int .u8 0, .int .u8 0, .int .u8 0, .int .u8 0, .int .u8 0, .int .u8 0, .int .u8 0, .int .u8 0, .int .u8 0, .int .u8 0, .int .u8 0, .int .u8 0, .int .u8 0, .int .u8 0, .int .u8 0, .int .u8 0, .int .u8 0, .int .u8 0, .int .u8 0, .int .u8 0, .int .u8 0, .int .u8 0, .int .u8 0, .int .u8 0, .int .u8 0] := by rw [hW0]; exact (Blk.new w _ _).alloc _
  have d0 : Blk W0 (w.heap.size + 1) 28 #[.int .u8 0, .int .u8 0, .int .u8 0, .int .u8 0, .int .u8 0, .int .u8 0, .int .u8 0, .int .u8 0, .int .u8 0, .int .u8 0, .int .u8 0, .int .u8 0, .int .u8 0, .int .u8 0, .int .u8 0, .int .u8 0, .int .u8 0, .int .u8 0, .int .u8 0, .int .u8 0, .int .u8 0, .int .u8 0, .int .u8 0, .int .u8 0, .int .u8 0, .int .u8 0, .int .u8 0, .int .u8 0, .int .u8 0, .int .u8 0, .int .u8 0, .int .u8 0] := by
    have h := Blk.new (w.alloc (.cells #[.int .u8 0, .int .u8 0, .int .u8 0, .int .u8 0, .int .u8 0, .int .u8 0, .int .u8 0, .int .u8 0, .int .u8 0, .int .u8 0, .int .u8 0, .int .u8 0, .int .u8 0, .int .u8 0, .int .u8 0, .int .u8 0, .int .u8 0, .int .u8 0, .int .u8 0, .int .u8 0, .int .u8 0, .int .u8 0, .int .u8 0, .int .u8 0, .int .u8 0, .int .u8 0, .int .u8 0, .int .u8 0, .int .u8 0, .int .u8 0, .int .u8 0, .int .u8 0] 28)) 28 #[.int .u8 0, .int .u8 0, .int .u8 0, .int .u8 0, .int .u8 0, .int .u8 0, .int .u8 0, .int .u8 0, .int .u8 0, .int .u8 0, .int .u8 0, .int .u8 0, .int .u8 0, .int .u8 0, .int .u8 0, .int .u8 0, .int .u8 0, .int .u8 0, .int .u8 0, .int .u8 0, .int .u8 0, .int .u8 0, .int .u8 0, .int .u8 0, .int .u8 0, .int .u8 0, .int .u8 0, .int .u8 0, .int .u8 0, .int .u8 0, .int .u8 0, .int .u8 0]
    rw [alloc_size] at h
    rw [hW0]
    exact h
  have b0 : Below w.heap.size w W0 := by rw [hW0]; exact below_new (below_new (Below.refl _ _) _) _
  have R0 := Lib.hid r0
  have D0 := Lib.hid d0
  have B0 := Lib.hid b0
  have HW0 := Lib.hid hW0
  clear r0 d0 b0 hW0
  go_enter Tryd.func53, Tryd.ntmps53
  go_upto_region 2 with (fail)
  rw [← HW0.out]
  obtain ⟨S, HS⟩ : ∃ S : World → Prop, Hid (∀ w', S w') := ⟨fun _ => True, fun _ => trivial⟩
  refine wp_region_seq S 3 [(0, false), (1, false), (2, true), (3, true)] (by kernel_rfl) rfl (by kernel_rfl) (by kernel_rfl) (by kernel_rfl) (fun _ _ d _ _ h => by cases d <;> exact h) (HS.out _) ?_
  iterate 2 (refine wpSeq_read rfl rfl ⟨?_, fun w1 hS => ?_, ?_⟩; rotate_left; (focus (go_simp; (try go_bits); try rfl)); simp only [Act.put, List.setIfInBounds_toArray, List.set_cons_zero, List.set_cons_succ])
  refine wpSeq_write rfl rfl ?_
  go_simp
  refine (HT2.out W0.drew (H.out.below B0.out.drew)).mono ?_
  rintro e w1 ⟨A, n, c, rfl, hnc, rd, h1, g1⟩
  refine ⟨HS.out _, ?_⟩
  try simp only [Act.put, List.setIfInBounds_toArray, List.set_cons_zero, List.set_cons_succ]
  have hl := reads_bytes_le rd
  have d1 := D0.out.grown (w := W0.drew) g1 (by simp; omega)
  have r1 := R0.out.grown (w := W0.drew) g1 (by simp; omega)
  refine wpSeq_write rfl rfl ?_
  refine wp_copy_grown (.tmp 4) (.tmp 6) 57 57 rfl 5 (by kernel_rfl) (by kernel_rfl) _ _ _ _ _ _ rfl rfl (w.heap.size + 1) 0 (byv (List.replicate 32 0)) 28 d1 (byv T) (by rw [byv_length, hl]; show n = min n 32; omega) (fun h0 => ⟨rfl, ?_⟩) (by rw [byv_length, byv_length, List.length_replicate]; omega) (byv_one _) ?_
  · obtain ⟨ad, e, -, hc⟩ := rd.2 (by rw [byv_length] at h0; omega)
    exact ⟨ad, e, hc⟩
  intro w2 HG2 g2
  rw [show (byv T).length = n by rw [byv_length, hl]]
  refine ⟨fun _ => HS.out _, ?_⟩
  try simp only [Act.put, List.setIfInBounds_toArray, List.set_cons_zero, List.set_cons_succ]
  refine wpSeq_nil ?_
  have d2 : Blk w2 (w.heap.size + 1) 28 (byv (T ++ List.replicate (32 - T.length) 0)).toArray := by
    have h := HG2.out
    rw [byv_splice0] at h
    exact h
  have r2 := r1.grown g2 (by simp)
  have h2 : Rd w2 B g bs s' := h1.kept g2 d1 (by decide) (by decide) (by omega)
  obtain ⟨D, hD⟩ : ∃ D, T ++ List.replicate (32 - T.length) 0 = D := ⟨_, rfl⟩
  have lD : (byv D).length = 32 := by rw [byv_length, ← hD]; simp; omega
  have oD := byv_one D
  rw [hD] at d2 HX
  have HRG := Lib.hid (rangeAt_blk d2 0 (byv D) (fun j u h => by simpa using h))
  have HI := Lib.hid (show (Tryd.prog.info? 28).map (·.size) = some (byv D).length by rw [lD]; exact Tryd.dig_info)
  have HI' := Lib.hid (show (Tryd.prog.info? 28).map (·.size) = some (byv D).toArray.size by rw [List.size_toArray, lD]; exact Tryd.dig_info)
  have R2 := Lib.hid r2
  have D2 := Lib.hid d2
  have H2 := Lib.hid h2
  have G1 := Lib.hid g1
  have G2 := Lib.hid g2
  have LD := Lib.hid lD
  have OD := Lib.hid oD
  clear r2 d2 h2 g1 g2 d1 r1 lD oD rd h1 hD HG2
  go_wp2_with (first
    | (refine load_mid_want rfl 28 (.tmp 3) rfl (w.heap.size + 1) 0 rfl (byv D) _ HRG.out Tryd.underlying28 rfl HI.out ?_)
    | (refine wpList_store_row rfl 28 (.tmp 2) (.tmp 8) rfl w.heap.size (byv D).toArray rfl rfl 28 _ R2.out HI'.out (by simp [LD.out]) (by simpa using OD.out) ?_))
  have z8 := R2.out.setRow (byv D).toArray
  have HRZ := rangeAt_blk z8 0 (byv D) (fun j u h => by simpa using h)
  refine bodyPost_ret (v := .agg (byv D).toArray) (results_cell rfl rfl (run_loadVar_mid _ _ 0 _ (byv D) _ HRZ Tryd.underlying28 rfl (by simpa using HI.out))) rfl ⟨by rw [HX.out], ?_, ?_⟩
  · rw [HX.out]
    exact H2.out.kept (grown_setRow _ _ _) R2.out (by decide) (by decide) (by omega)
  · have q1 := only_trans (only_of_below B0.out.drew (some g)) (row := some g) G1.out (by simp)
    have q2 := only_trans q1 G2.out (by simp)
    exact only_trans q2 (grown_setRow w2 w.heap.size _) (by simp)

/-- The error that a reading ends in: nil, or a refusal of the call's own. -/
def RErr (w : World) (B : Nat) (v : Value) : Option (Nat × Nat) → Prop
  | none => v = .nilIface
  | some x => ∃ h, v = .iface 101 (.pointer (some ⟨h, 0, none⟩)) ∧ B ≤ h ∧ Blk w h 113 #[.int .i64 (x.1 : Int), .int .i64 (x.2 : Int)]

theorem reader_end (B g : Nat) (bs : List Nat) (s : RSt) (w : World) (h : Rd w B g bs s) :
    Calls Tryd.prog 54 #[.pointer (some ⟨g, 0, none⟩)] w fun e w' => ∃ v, e = .returned v ∧ RErr w' w.heap.size v (rEnd bs s) ∧ Below w.heap.size w w' := by
  obtain ⟨s1, s2⟩ := s
  obtain ⟨A, n, c, p, hg, hB, ho, hn, hc, hs, hm, hp⟩ := h
  have c0 := hg.cell 0
  have c1 := hg.cell 1
  have c2 := hg.cell 2
  rw [show (#[Value.slice A n c, .int .i64 (s1 : Int), .pointer p] : Array Value)[0]? = some (.slice A n c) from rfl] at c0
  rw [show (#[Value.slice A n c, .int .i64 (s1 : Int), .pointer p] : Array Value)[1]? = some (.int .i64 (s1 : Int)) from rfl] at c1
  rw [show (#[Value.slice A n c, .int .i64 (s1 : Int), .pointer p] : Array Value)[2]? = some (.pointer p) from rfl] at c2
  dsimp only at hs
  have hlt := hg.lt
  cases s2 with
  | some x =>
    obtain ⟨a, y⟩ := x
    obtain ⟨k, rfl, hk, hkb⟩ := hp
    have k0 := hkb.cell 0
    have k1 := hkb.cell 1
    rw [show (#[Value.int .i64 (a : Int), .int .i64 (y : Int)] : Array Value)[0]? = some (.int .i64 (a : Int)) from rfl] at k0
    rw [show (#[Value.int .i64 (a : Int), .int .i64 (y : Int)] : Array Value)[1]? = some (.int .i64 (y : Int)) from rfl] at k1
    have hklt := hkb.lt
    clear hkb hg ho
    go_enter Tryd.func54, Tryd.ntmps54
    go_wp2
    obtain ⟨S, HS⟩ : ∃ S : World → Prop, Hid (∀ w', S w' = (w'.cell? ⟨g, 2, none⟩ = some (.pointer (some ⟨k, 0, none⟩)) ∧ w'.cell? ⟨k, 0, none⟩ = some (.int .i64 (a : Int)) ∧ w'.cell? ⟨k, 1, none⟩ = some (.int .i64 (y : Int)))) := ⟨_, fun _ => rfl⟩
    refine wp_region_seq S 18 [(0, false), (1, false), (2, false), (3, false), (4, false), (5, false), (6, false), (7, false), (8, false), (9, false), (10, false), (11, false), (12, false), (13, false), (14, false), (15, true), (16, false), (17, false)] (by kernel_rfl) rfl (by kernel_rfl) (by kernel_rfl) (by kernel_rfl) (fun _ _ d _ _ h => by cases d <;> exact h) ((HS.out _).mpr ⟨c2, k0, k1⟩) ?_
    repeat (refine wpSeq_read rfl rfl ⟨?_, fun w1 hS => ?_, ?_⟩; rotate_left; (focus (rw [HS.out] at hS; go_split_ands; go_simp; (try go_bits); try rfl)); simp only [Act.put, List.setIfInBounds_toArray, List.set_cons_zero, List.set_cons_succ])
    refine wpSeq_write rfl rfl ?_
    go_simp
    refine ⟨(HS.out _).mpr ⟨cell_new c2 _, cell_new k0 _, cell_new k1 _⟩, ?_⟩
    try simp only [Act.put, List.setIfInBounds_toArray, List.set_cons_zero, List.set_cons_succ]
    repeat (refine wpSeq_read rfl rfl ⟨?_, fun w1 hS => ?_, ?_⟩; rotate_left; (focus (rw [HS.out] at hS; go_split_ands; go_simp; (try go_bits); try rfl)); simp only [Act.put, List.setIfInBounds_toArray, List.set_cons_zero, List.set_cons_succ])
    refine wpSeq_nil ?_
    go_wp2
    go_ret
    exact ⟨_, rfl, ⟨_, rfl, Nat.le_refl _, Blk.new _ _ _⟩, below_new (Below.refl _ _).drew _⟩
  | none =>
    obtain rfl : p = none := hp
    by_cases hlt2 : s1 < n
    · have q : (s1 : Int) < n := by omega
      have HE : Hid (rEnd bs (s1, none) = some (s1, 11)) := by
        show (if s1 < bs.length then _ else _) = _
        rw [← hn, if_pos hlt2]
      clear hg ho hn
      go_enter Tryd.func54, Tryd.ntmps54
      go_wp2
      obtain ⟨S, HS⟩ : ∃ S : World → Prop, Hid (∀ w', S w' = (w'.cell? ⟨g, 0, none⟩ = some (.slice A n c) ∧ w'.cell? ⟨g, 1, none⟩ = some (.int .i64 (s1 : Int)))) := ⟨_, fun _ => rfl⟩
      refine wp_region_seq S 11 [(0, false), (1, false), (2, false), (3, false), (4, false), (5, false), (6, false), (7, false), (8, false), (9, false), (10, false)] (by kernel_rfl) rfl (by kernel_rfl) (by kernel_rfl) (by kernel_rfl) (fun _ _ d _ _ h => by cases d <;> exact h) ((HS.out _).mpr ⟨c0, c1⟩) ?_
      repeat (refine wpSeq_read rfl rfl ⟨?_, fun w1 hS => ?_, ?_⟩; rotate_left; (focus (rw [HS.out] at hS; go_split_ands; go_simp; (try go_bits); try rfl)); simp only [Act.put, List.setIfInBounds_toArray, List.set_cons_zero, List.set_cons_succ])
      refine wpSeq_nil ?_
      go_wp2
      go_ret
      exact ⟨_, rfl, by rw [HE.out]; exact ⟨_, rfl, Nat.le_refl _, Blk.new _ _ _⟩, below_new (Below.refl _ _).drew _⟩
    · have q : ¬ (s1 : Int) < n := by omega
      have HE : Hid (rEnd bs (s1, none) = none) := by
        show (if s1 < bs.length then _ else _) = _
        rw [← hn, if_neg hlt2]
      clear hg ho hn
      go_enter Tryd.func54, Tryd.ntmps54
      go_wp2
      obtain ⟨S, HS⟩ : ∃ S : World → Prop, Hid (∀ w', S w' = (w'.cell? ⟨g, 0, none⟩ = some (.slice A n c) ∧ w'.cell? ⟨g, 1, none⟩ = some (.int .i64 (s1 : Int)))) := ⟨_, fun _ => rfl⟩
      refine wp_region_seq S 11 [(0, false), (1, false), (2, false), (3, false), (4, false), (5, false), (6, false), (7, false), (8, false), (9, false), (10, false)] (by kernel_rfl) rfl (by kernel_rfl) (by kernel_rfl) (by kernel_rfl) (fun _ _ d _ _ h => by cases d <;> exact h) ((HS.out _).mpr ⟨c0, c1⟩) ?_
      repeat (refine wpSeq_read rfl rfl ⟨?_, fun w1 hS => ?_, ?_⟩; rotate_left; (focus (rw [HS.out] at hS; go_split_ands; go_simp; (try go_bits); try rfl)); simp only [Act.put, List.setIfInBounds_toArray, List.set_cons_zero, List.set_cons_succ])
      refine wpSeq_nil ?_
      go_wp2
      go_ret
      exact ⟨_, rfl, by rw [HE.out]; rfl, (Below.refl _ _).drew⟩

end Go.Proofs.YtamhggndcegndaaDoor
