/-
  Responses that came in, opened.
-/
import Derived.Test.YtbkdccamimakoaaDoorAns
import Derived.Test.YtbkdccamimakoaaDoorOpenT
namespace Go.Proofs.YtbkdccamimakoaaDoor
open Go.RowKit Go.ChangeShapes Go.WideShapes Go.ChangeAt Go.Deep
set_option linter.unusedVariables false
set_option maxRecDepth 100000

section
variable {H : Type} {enc : TypeId × Value → H} {W : World} {base : Nat} {held : Bool}

theorem digv_split : ∀ (l : List (List Nat)) (_ : ∀ d ∈ l, d.length = 32) (j : Nat) (u : Value), (digv l)[j]? = some u → ∃ d, l[j / 32]? = some d ∧ (byv d)[j % 32]? = some u
  | [], _, j, u, h => by simp [digv] at h
  | x :: l, hl, j, u, h => by
    have hx : (byv x).length = 32 := by rw [byv_length, hl x (by simp)]
    unfold digv at h
    rw [List.flatMap_cons] at h
    rcases Nat.lt_or_ge j 32 with hj | hj
    · rw [List.getElem?_append_left (by omega)] at h
      exact ⟨x, by rw [show j / 32 = 0 by omega]; rfl, by rw [show j % 32 = j by omega]; exact h⟩
    · rw [List.getElem?_append_right (by omega), hx] at h
      obtain ⟨d, h1, h2⟩ := digv_split l (fun d hd => hl d (List.mem_cons_of_mem _ hd)) (j - 32) u h
      exact ⟨d, by rw [show j / 32 = (j - 32) / 32 + 1 by omega, List.getElem?_cons_succ]; exact h1, by rw [show j % 32 = (j - 32) % 32 by omega]; exact h2⟩

/-- A slice of hashes. -/
theorem trod_digs {fuel : Nat} {cs : List Value} {x : DataW H × List MemPlace} (h : DataW.trod enc Tryd.prog W base (fun _ => true) held fuel 51 cs = some x) :
    ∃ (A : Option Addr) (c : Nat) (l : List (List Nat)), cs = [.slice A l.length c] ∧ l.length ≤ c ∧ c ≤ maxLen ∧ (∀ d ∈ l, d.length = 32 ∧ ∀ y ∈ d, y < 256) ∧ Reads W W.heap.size 32 A l.length (digv l) := by
  have ce : (Tryd.prog).cellsOf 27 = 32 := by kernel_rfl
  rcases open_slice Tryd.underlying51 h with ⟨hcs, _⟩ | ⟨a, len, c, m, n, D, Pl, hcs, _, hl, hm, hmm, hx0, hel⟩
  · exact ⟨none, 0, [], hcs, Nat.le_refl _, by simp [maxLen], fun d hd => (nomatch hd), Reads.none_⟩
  · have hmc : m = c := by simpa using hmm
    have each : ∀ i, i < len → ∃ tag : List Nat, tag.length = 32 ∧ (∀ b ∈ tag, b < 256) ∧ ∀ j u, (byv tag)[j]? = some u → W.cell? (a.add (i * 32 + j)) = some u := fun i hi => by
      obtain ⟨cs', h1, h2⟩ := hel i (by omega)
      rw [ce] at h1
      obtain ⟨_, hlen, hcell⟩ := World.cells?_some h1
      obtain ⟨tag, rfl, t1, t2⟩ := trod_digest h2
      refine ⟨tag, t1, t2, fun j u hu => ?_⟩
      have hj : j < 32 := by
        have := (List.getElem?_eq_some_iff.1 hu).1
        rw [byv_length, t1] at this
        exact this
      have := hcell j hj
      rw [add_add] at this
      rw [this]
      exact hu
    obtain ⟨q, hq⟩ := choose_lt each
    obtain ⟨L, hL⟩ : ∃ L, L = (List.range len).map q := ⟨_, rfl⟩
    have hlen : L.length = len := by rw [hL]; simp
    have hok : ∀ d ∈ L, d.length = 32 ∧ ∀ y ∈ d, y < 256 := by
      intro d hd
      rw [hL] at hd
      obtain ⟨i, hi, rfl⟩ := List.mem_map.1 hd
      exact ⟨(hq i (List.mem_range.1 hi)).1, (hq i (List.mem_range.1 hi)).2.1⟩
    refine ⟨some a, c, L, by rw [hlen]; exact hcs, by omega, hm, hok, ?_⟩
    refine ⟨digv_len L (fun d hd => (hok d hd).1), fun hn => ⟨a, rfl, ?_, fun j u hu => ?_⟩⟩
    · have hq0 := hq 0 (by omega)
      have hc := hq0.2.2 0 _ (List.getElem?_eq_getElem (by rw [byv_length, hq0.1]; decide))
      have hb := World.block_lt_of_cell? _ _ hc
      rwa [block_of_add] at hb
    · obtain ⟨d, h1, h2⟩ := digv_split L (fun d hd => (hok d hd).1) j u hu
      have hi : j / 32 < len := by
        have := (List.getElem?_eq_some_iff.1 h1).1
        omega
      have hd : d = q (j / 32) := by
        rw [hL] at h1
        simp [hi] at h1
        exact h1.symm
      have := (hq (j / 32) hi).2.2 (j % 32) u (by rw [← hd]; exact h2)
      rwa [show j / 32 * 32 + j % 32 = j by omega] at this

/-- A head. -/
theorem trod_head {fuel : Nat} {cs : List Value} {x : DataW H × List MemPlace} (h : DataW.trod enc Tryd.prog W base (fun _ => true) held fuel 53 cs = some x) :
    ∃ (tree epoch : Int) (size clock : Nat) (root : List Nat), cs = .int .i64 tree :: .int .i64 epoch :: .int .u64 (size : Int) :: .int .u64 (clock : Int) :: byv root ∧ size < 18446744073709551616 ∧ clock < 18446744073709551616 ∧ root.length = 32 ∧ ∀ b ∈ root, b < 256 := by
  obtain ⟨xs, n, -, hx0, hlen, hxl, hf⟩ := DataW.trod_struct Tryd.underlying53 h
  have c1 : (Tryd.prog).cellsOf 3 = 1 := by kernel_rfl
  have c2 : (Tryd.prog).cellsOf 30 = 1 := by kernel_rfl
  have c3 : (Tryd.prog).cellsOf 27 = 32 := by kernel_rfl
  have c4 : (Tryd.prog).cellsOf 53 = 36 := by kernel_rfl
  rw [c4] at hlen
  have hx : ∀ i, i < 5 → ∃ y, xs[i]? = some y := fun i hi => some_of_lt (by rw [hxl]; exact hi)
  obtain ⟨y0, h0⟩ := hx 0 (by omega)
  obtain ⟨y1, h1⟩ := hx 1 (by omega)
  obtain ⟨y2, h2⟩ := hx 2 (by omega)
  obtain ⟨y3, h3⟩ := hx 3 (by omega)
  obtain ⟨y4, h4⟩ := hx 4 (by omega)
  have g0 := (hf 0 _ rfl).trans h0
  have g1 := (hf 1 _ rfl).trans h1
  have g2 := (hf 2 _ rfl).trans h2
  have g3 := (hf 3 _ rfl).trans h3
  have g4 := (hf 4 _ rfl).trans h4
  simp only [List.getElem_toArray, List.getElem_cons_zero, List.getElem_cons_succ] at g0 g1 g2 g3 g4
  rw [c1] at g0 g1
  rw [c2] at g2 g3
  rw [c3] at g4
  obtain ⟨tree, e0, -, w0⟩ := DataW.trod_int Tryd.underlying3 g0
  obtain ⟨epoch, e1, -, w1⟩ := DataW.trod_int Tryd.underlying3 g1
  obtain ⟨size, e2, -, w2⟩ := DataW.trod_int Tryd.underlying30 g2
  obtain ⟨clock, e3, -, w3⟩ := DataW.trod_int Tryd.underlying30 g3
  obtain ⟨root, e4, b1, b2⟩ := trod_digest g4
  refine ⟨tree, epoch, size.toNat, clock.toNat, root, ?_, (u64_toNat w2).2, (u64_toNat w3).2, b1, b2⟩
  have : cs = (cs.drop 0).take 1 ++ ((cs.drop 1).take 1 ++ ((cs.drop 2).take 1 ++ ((cs.drop 3).take 1 ++ ((cs.drop 4).take 32 ++ cs.drop 36)))) := by
    rw [← drop_split cs 4 32, ← drop_split cs 3 1, ← drop_split cs 2 1, ← drop_split cs 1 1, ← drop_split cs 0 1]
    rfl
  rw [this, e0, e1, e2, e3, e4, List.drop_eq_nil_of_le (by omega)]
  simp [(u64_toNat w2).1, (u64_toNat w3).1]

/-- A signed head. -/
theorem trod_signed {fuel : Nat} {cs : List Value} {x : DataW H × List MemPlace} (h : DataW.trod enc Tryd.prog W base (fun _ => true) held fuel 55 cs = some x) :
    ∃ d : Hd, cs = hdv d ∧ d.Ok := by
  obtain ⟨xs, n, -, hx0, hlen, hxl, hf⟩ := DataW.trod_struct Tryd.underlying55 h
  have c1 : (Tryd.prog).cellsOf 53 = 36 := by kernel_rfl
  have c3 : (Tryd.prog).cellsOf 27 = 32 := by kernel_rfl
  have c4 : (Tryd.prog).cellsOf 55 = 68 := by kernel_rfl
  rw [c4] at hlen
  have hx : ∀ i, i < 2 → ∃ y, xs[i]? = some y := fun i hi => some_of_lt (by rw [hxl]; exact hi)
  obtain ⟨y0, h0⟩ := hx 0 (by omega)
  obtain ⟨y1, h1⟩ := hx 1 (by omega)
  have g0 := (hf 0 _ rfl).trans h0
  have g1 := (hf 1 _ rfl).trans h1
  simp only [List.getElem_toArray, List.getElem_cons_zero, List.getElem_cons_succ] at g0 g1
  rw [c1] at g0
  rw [c3] at g1
  obtain ⟨tree, epoch, size, clock, root, e0, s1, s2, r1, r2⟩ := trod_head g0
  obtain ⟨tag, e1, b1, b2⟩ := trod_digest g1
  refine ⟨⟨tree, epoch, size, clock, root, tag⟩, ?_, ⟨s1, s2, r1, r2, b1, b2⟩⟩
  have : cs = (cs.drop 0).take 36 ++ ((cs.drop 36).take 32 ++ cs.drop 68) := by
    rw [← drop_split cs 36 32, ← drop_split cs 0 36]
    rfl
  rw [this, e0, e1, List.drop_eq_nil_of_le (by omega)]
  simp [hdv]

/-- A response. -/
theorem trod_response {fuel : Nat} {cs : List Value} {x : DataW H × List MemPlace} (h : DataW.trod enc Tryd.prog W base (fun _ => true) held fuel 57 cs = some x) :
    ∃ (R : Rsp) (Ab : Option Addr) (cb : Nat) (Ah : Option Addr) (ch : Nat) (Ac : Option Addr) (cc : Nat), cs = rspv R (.slice Ab R.bytes.length cb) (.slice Ah R.hashes.length ch) (.slice Ac R.tok.2.1.length cc) ∧ R.Ok ∧
      Reads W W.heap.size 1 Ab R.bytes.length (byv R.bytes) ∧ R.bytes.length ≤ cb ∧ cb ≤ maxLen ∧ Reads W W.heap.size 32 Ah R.hashes.length (digv R.hashes) ∧ R.hashes.length ≤ ch ∧ ch ≤ maxLen ∧
      Reads W W.heap.size 2 Ac R.tok.2.1.length (cavv R.tok.2.1) ∧ R.tok.2.1.length ≤ cc ∧ cc ≤ maxLen ∧ (∀ M, (∀ n ∈ x.1.weights Tryd.prog 57, n ≤ M) → cc * 16 ≤ M) := by
  obtain ⟨xs, n, -, hx0, hlen, hxl, hf⟩ := DataW.trod_struct Tryd.underlying57 h
  have c0 : (Tryd.prog).cellsOf 44 = 1 := by kernel_rfl
  have c1 : (Tryd.prog).cellsOf 30 = 1 := by kernel_rfl
  have c2 : (Tryd.prog).cellsOf 22 = 1 := by kernel_rfl
  have c3 : (Tryd.prog).cellsOf 51 = 1 := by kernel_rfl
  have c4 : (Tryd.prog).cellsOf 55 = 68 := by kernel_rfl
  have c5 : (Tryd.prog).cellsOf 29 = 34 := by kernel_rfl
  have c6 : (Tryd.prog).cellsOf 57 = 106 := by kernel_rfl
  rw [c6] at hlen
  have hx : ∀ i, i < 6 → ∃ y, xs[i]? = some y := fun i hi => some_of_lt (by rw [hxl]; exact hi)
  obtain ⟨y0, h0⟩ := hx 0 (by omega)
  obtain ⟨y1, h1⟩ := hx 1 (by omega)
  obtain ⟨y2, h2⟩ := hx 2 (by omega)
  obtain ⟨y3, h3⟩ := hx 3 (by omega)
  obtain ⟨y4, h4⟩ := hx 4 (by omega)
  obtain ⟨y5, h5⟩ := hx 5 (by omega)
  have g0 := (hf 0 _ rfl).trans h0
  have g1 := (hf 1 _ rfl).trans h1
  have g2 := (hf 2 _ rfl).trans h2
  have g3 := (hf 3 _ rfl).trans h3
  have g4 := (hf 4 _ rfl).trans h4
  have g5 := (hf 5 _ rfl).trans h5
  simp only [List.getElem_toArray, List.getElem_cons_zero, List.getElem_cons_succ] at g0 g1 g2 g3 g4 g5
  rw [c0] at g0
  rw [c1] at g1
  rw [c2] at g2
  rw [c3] at g3
  rw [c4] at g4
  rw [c5] at g5
  obtain ⟨why, e0, -, w0⟩ := DataW.trod_int Tryd.underlying44 g0
  obtain ⟨N, e1, -, w1⟩ := DataW.trod_int Tryd.underlying30 g1
  obtain ⟨Ab, cb, bytes, e2, l1, l2, l3, l4⟩ := trod_bytes g2
  obtain ⟨Ah, ch, hashes, e3, m1, m2, m3, m4⟩ := trod_digs g3
  obtain ⟨hd, e4, ok⟩ := trod_signed g4
  obtain ⟨tid, Ac, cc, cavs, tag, e5, t0, t1, t2, t3, t4, t5, t6, t7, t8⟩ := trod_token g5
  refine ⟨⟨why, N.toNat, bytes, hashes, hd, (tid, cavs, tag)⟩, Ab, cb, Ah, ch, Ac, cc, ?_, ⟨(u64_toNat w1).2, l3, m3, ok, ⟨t0, t3, t6, t7⟩⟩, l4, l1, l2, m4, m1, m2, t5, t1, t2, fun M hM => t8 M fun n hn => hM n ?_⟩
  · have : cs = (cs.drop 0).take 1 ++ ((cs.drop 1).take 1 ++ ((cs.drop 2).take 1 ++ ((cs.drop 3).take 1 ++ ((cs.drop 4).take 68 ++ ((cs.drop 72).take 34 ++ cs.drop 106))))) := by
      rw [← drop_split cs 72 34, ← drop_split cs 4 68, ← drop_split cs 3 1, ← drop_split cs 2 1, ← drop_split cs 1 1, ← drop_split cs 0 1]
      rfl
    rw [this, e0, e1, e2, e3, e4, e5, List.drop_eq_nil_of_le (by omega)]
    simp [rspv, (u64_toNat w1).1]
  · rw [hx0]
    unfold DataW.weights
    rw [Tryd.underlying57]
    exact DataW.weights_mem_each (j := 5) rfl (by rw [List.getElem?_map, h5]; rfl) n hn
end

end Go.Proofs.YtbkdccamimakoaaDoor
