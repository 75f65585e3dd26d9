/-
  Arguments opened: bytes, caveats, hashes and tokens that came in.
-/
import Derived.Test.YtamhggndcegndaaDoorCav
import Derived.ProofKit
import Derived.DataShut
import Derived.OpenShut
import Derived.ShutString
import Derived.Deep.SlicePairs
import Derived.SizedLaws
namespace Go.Proofs.YtamhggndcegndaaDoor
open Go.RowKit Go.ChangeShapes Go.WideShapes Go.ChangeAt Go.Deep
set_option linter.unusedVariables false
set_option maxRecDepth 100000

section
variable {H : Type} {enc : TypeId × Value → H} {W : World} {base : Nat} {held : Bool}

theorem u8_toNat {x : Int} (h : (Lit.int .u8 x).wf = true) : ((x.toNat : Nat) : Int) = x ∧ x.toNat < 256 := by
  have := (Go.Lit.wf_int_iff _ _).1 h
  rw [IntKind.min_u8, IntKind.max_u8] at this
  omega

theorem u32_toNat {x : Int} (h : (Lit.int .u32 x).wf = true) : ((x.toNat : Nat) : Int) = x ∧ x.toNat < 4294967296 := by
  have := (Go.Lit.wf_int_iff _ _).1 h
  rw [IntKind.min_u32, IntKind.max_u32] at this
  omega

theorem u64_toNat {x : Int} (h : (Lit.int .u64 x).wf = true) : ((x.toNat : Nat) : Int) = x ∧ x.toNat < 18446744073709551616 := by
  have := (Go.Lit.wf_int_iff _ _).1 h
  rw [IntKind.min_u64, IntKind.max_u64] at this
  omega

theorem i64_bd {x : Int} (h : (Lit.int .i64 x).wf = true) : -9223372036854775808 ≤ x ∧ x ≤ 9223372036854775807 := by
  have := (Go.Lit.wf_int_iff _ _).1 h
  rw [IntKind.min_i64, IntKind.max_i64] at this
  omega

theorem byv_of {zs : List Int} (h : ∀ z ∈ zs, (Lit.int .u8 z).wf = true) : byv (zs.map Int.toNat) = zs.map (Value.int .u8) ∧ ∀ b ∈ zs.map Int.toNat, b < 256 := by
  refine ⟨?_, fun b hb => ?_⟩
  · unfold byv
    rw [List.map_map]
    exact List.map_congr_left fun z hz => by simp only [Function.comp]; rw [(u8_toNat (h z hz)).1]
  · obtain ⟨z, hz, rfl⟩ := List.mem_map.1 hb
    exact (u8_toNat (h z hz)).2

/-- A slice of bytes. -/
theorem trod_bytes {fuel : Nat} {cs : List Value} {x : DataW H × List MemPlace} (h : DataW.trod enc Tryd.prog W base (fun _ => true) held fuel 57 cs = some x) :
    ∃ (A : Option Addr) (c : Nat) (bs : List Nat), cs = [.slice A bs.length c] ∧ bs.length ≤ c ∧ c ≤ maxLen ∧ (∀ b ∈ bs, b < 256) ∧ Reads W W.heap.size 1 A bs.length (byv bs) := by
  rcases open_ints Tryd.underlying57 Tryd.underlying5 (by kernel_rfl) h with ⟨hcs, _⟩ | ⟨a, l, c, zs, hcs, _, hl, hm, hz, _, hcell, hwz⟩
  · exact ⟨none, 0, [], hcs, Nat.le_refl _, by simp [maxLen], by simp, Reads.none_⟩
  · have hz' : zs.length = c := by simpa using hz
    obtain ⟨h1, h2⟩ := byv_of (zs := zs.take l) fun z hz => hwz z (List.mem_of_mem_take hz)
    have hlen : ((zs.take l).map Int.toNat).length = l := by simp; omega
    refine ⟨some a, c, (zs.take l).map Int.toNat, by rw [hlen]; exact hcs, by omega, hm, h2, ?_⟩
    rw [h1, hlen]
    refine ⟨by simp; omega, fun hn => ⟨a, rfl, ?_, fun j u hu => ?_⟩⟩
    · have := hcell 0 (by omega)
      have hb := World.block_lt_of_cell? _ _ this
      rwa [block_of_add] at hb
    · simp only [List.getElem?_map, Option.map_eq_some_iff] at hu
      obtain ⟨y, hy, rfl⟩ := hu
      rw [List.getElem?_take] at hy
      split at hy
      · rename_i hj
        have := hcell j (by omega)
        rw [this, List.getD_eq_getElem?_getD, hy]
        rfl
      · cases hy

/-- A hash. -/
theorem trod_digest {fuel : Nat} {cs : List Value} {x : DataW H × List MemPlace} (h : DataW.trod enc Tryd.prog W base (fun _ => true) held fuel 28 cs = some x) :
    ∃ tag : List Nat, cs = byv tag ∧ tag.length = 32 ∧ ∀ b ∈ tag, b < 256 := by
  obtain ⟨xs, m, -, -, hlen, hxl, hx⟩ := DataW.trod_array Tryd.underlying28 h
  have c1 : (Tryd.prog).cellsOf 5 = 1 := by kernel_rfl
  have c2 : (Tryd.prog).cellsOf 28 = 32 := by kernel_rfl
  rw [c2] at hlen
  have each : ∀ v ∈ cs, ∃ n : Int, v = .int .u8 n ∧ (Lit.int .u8 n).wf = true := by
    intro v hv
    obtain ⟨i, hi, rfl⟩ := List.mem_iff_getElem.1 hv
    have := hx i (by omega)
    rw [c1, Nat.mul_one, List.drop_eq_getElem_cons hi] at this
    simp only [List.take_succ_cons, List.take_zero] at this
    cases hxi : xs[i]? with
    | none =>
      have h2 := (List.getElem?_eq_none_iff.1 hxi)
      omega
    | some y =>
      rw [hxi] at this
      obtain ⟨n, hn, -, hw⟩ := DataW.trod_int Tryd.underlying5 this
      exact ⟨n, by simpa using hn, hw⟩
  refine ⟨cs.map fun v => (intOf v).toNat, ?_, by simp [hlen], fun b hb => ?_⟩
  · unfold byv
    rw [List.map_map]
    conv => lhs; rw [← List.map_id cs]
    refine List.map_congr_left fun v hv => ?_
    obtain ⟨n, rfl, hw⟩ := each v hv
    simp [intOf, (u8_toNat hw).1]
  · obtain ⟨v, hv, rfl⟩ := List.mem_map.1 hb
    obtain ⟨n, rfl, hw⟩ := each v hv
    simpa [intOf] using (u8_toNat hw).2

/-- A slice of caveats. -/
theorem trod_cavs {fuel : Nat} {cs : List Value} {x : DataW H × List MemPlace} (h : DataW.trod enc Tryd.prog W base (fun _ => true) held fuel 23 cs = some x) :
    ∃ (A : Option Addr) (c : Nat) (l : List (Int × Nat)), cs = [.slice A l.length c] ∧ l.length ≤ c ∧ c ≤ maxLen ∧ (∀ x ∈ l, x.2 < 4294967296) ∧ (∀ x ∈ l, (Lit.int .i64 x.1).wf = true) ∧ Reads W W.heap.size 2 A l.length (cavv l) ∧ (∀ M, (∀ n ∈ x.1.weights Tryd.prog 23, n ≤ M) → c * 16 ≤ M) := by
  have hby : (Tryd.prog).bytesOf 37 = 16 := by kernel_rfl
  rcases open_slice_pairs Tryd.underlying23 Tryd.underlying37 (by kernel_rfl) rfl rfl (by kernel_rfl) (by kernel_rfl) h with ⟨hcs, _⟩ | ⟨a, len, c, m, n, V0, V1, D0, D1, P0, P1, hcs, _, hl, hm, hmm, hx0, hel⟩
  · exact ⟨none, 0, [], hcs, Nat.le_refl _, by simp [maxLen], by simp, by simp, Reads.none_, fun M _ => by omega⟩
  · have hmc : m = c := by simpa using hmm
    have e0 : ∀ i, i < len → ∃ k : Int, V0 i = .int .i64 k ∧ (Lit.int .i64 k).wf = true := fun i hi => by
      obtain ⟨k, hk, -, hw⟩ := DataW.trod_int Tryd.underlying3 (hel i (by omega)).2.2.1
      exact ⟨k, by simpa using hk, hw⟩
    have e1 : ∀ i, i < len → ∃ k : Int, V1 i = .int .u32 k ∧ (Lit.int .u32 k).wf = true := fun i hi => by
      obtain ⟨k, hk, -, hw⟩ := DataW.trod_int Tryd.underlying22 (hel i (by omega)).2.2.2
      exact ⟨k, by simpa using hk, hw⟩
    obtain ⟨L, hL⟩ : ∃ L, L = (List.range len).map fun i => (intOf (V0 i), (intOf (V1 i)).toNat) := ⟨_, rfl⟩
    have hlen : L.length = len := by rw [hL]; simp
    have hget : ∀ i, i < len → L[i]? = some (intOf (V0 i), (intOf (V1 i)).toNat) := fun i hi => by rw [hL]; simp [hi]
    have hv : ∀ i, i < len → V0 i = .int .i64 (intOf (V0 i)) ∧ V1 i = .int .u32 ((intOf (V1 i)).toNat : Int) := fun i hi => by
      obtain ⟨k, hk, hw⟩ := e0 i hi
      obtain ⟨q, hq, hw2⟩ := e1 i hi
      rw [hk, hq]
      simp [intOf, (u32_toNat hw2).1]
    refine ⟨some a, c, L, by rw [hlen]; exact hcs, by omega, hm, fun x hx => ?_, fun x hx => ?_, ?_, ?_⟩
    · obtain ⟨i, hi, rfl⟩ := List.mem_iff_getElem.1 hx
      have := hget i (by omega)
      rw [List.getElem?_eq_getElem hi] at this
      injection this with this
      rw [this]
      obtain ⟨q, hq, hw2⟩ := e1 i (by omega)
      simpa [hq, intOf] using (u32_toNat hw2).2
    · obtain ⟨i, hi, rfl⟩ := List.mem_iff_getElem.1 hx
      have := hget i (by omega)
      rw [List.getElem?_eq_getElem hi] at this
      injection this with this
      rw [this]
      obtain ⟨q, hq, hw2⟩ := e0 i (by omega)
      simpa [hq, intOf] using hw2
    · rw [hlen]
      have hcl : (cavv L).length = len * 2 := by
        have : ∀ l : List (Int × Nat), (cavv l).length = l.length * 2 := by
          intro l
          unfold cavv
          induction l with
          | nil => rfl
          | cons y l ih => simp only [List.flatMap_cons, List.length_append, ih, List.length_cons]; simp; omega
        rw [this, hlen]
      refine ⟨hcl, fun hn => ⟨a, rfl, ?_, fun j u hu => ?_⟩⟩
      · have hb := World.block_lt_of_cell? _ _ (hel 0 (by omega)).1
        rwa [block_of_add] at hb
      · have hj : j < len * 2 := by
          rcases Nat.lt_or_ge j (cavv L).length with h | h
          · omega
          · rw [List.getElem?_eq_none h] at hu; cases hu
        obtain ⟨i, hi⟩ : ∃ i, i = j / 2 := ⟨_, rfl⟩
        obtain ⟨q0, q1⟩ := cavv_at L i _ (hget i (by omega))
        obtain ⟨v0, v1⟩ := hv i (by omega)
        rcases Nat.mod_two_eq_zero_or_one j with h2 | h2
        · have e : j = i * 2 := by omega
          rw [e] at hu ⊢
          rw [q0] at hu
          injection hu with hu
          rw [(hel i (by omega)).1, v0, ← hu]
        · have e : j = i * 2 + 1 := by omega
          rw [e] at hu ⊢
          rw [q1] at hu
          injection hu with hu
          rw [(hel i (by omega)).2.1, v1, ← hu]
    · intro M hM
      refine hM _ ?_
      rw [hx0]
      unfold DataW.weights
      rw [Tryd.underlying23]
      simp only [List.length_map, List.length_range, hby]
      rw [show len + (m - len) = c from by omega]
      exact List.mem_cons_self ..

theorem drop_split (l : List Value) (a k : Nat) : l.drop a = (l.drop a).take k ++ l.drop (a + k) := by
  have := (List.take_append_drop k (l.drop a)).symm
  rwa [List.drop_drop] at this

/-- A field's reading. -/
theorem some_of_lt {α : Type} {xs : List α} {i : Nat} (h : i < xs.length) : ∃ y, xs[i]? = some y := ⟨_, List.getElem?_eq_getElem h⟩

/-- A token. -/
theorem trod_token {fuel : Nat} {cs : List Value} {x : DataW H × List MemPlace} (h : DataW.trod enc Tryd.prog W base (fun _ => true) held fuel 30 cs = some x) :
    ∃ (id : Nat) (A : Option Addr) (c : Nat) (l : List (Int × Nat)) (tag : List Nat), cs = tokv id (.slice A l.length c) tag ∧ id < 4294967296 ∧ l.length ≤ c ∧ c ≤ maxLen ∧ (∀ x ∈ l, x.2 < 4294967296) ∧ (∀ x ∈ l, (Lit.int .i64 x.1).wf = true) ∧
      Reads W W.heap.size 2 A l.length (cavv l) ∧ tag.length = 32 ∧ (∀ b ∈ tag, b < 256) ∧ (∀ M, (∀ n ∈ x.1.weights Tryd.prog 30, n ≤ M) → c * 16 ≤ M) := by
  obtain ⟨xs, n, -, hx0, hlen, hxl, hf⟩ := DataW.trod_struct Tryd.underlying30 h
  have c1 : (Tryd.prog).cellsOf 22 = 1 := by kernel_rfl
  have c2 : (Tryd.prog).cellsOf 23 = 1 := by kernel_rfl
  have c3 : (Tryd.prog).cellsOf 28 = 32 := by kernel_rfl
  have c4 : (Tryd.prog).cellsOf 30 = 34 := by kernel_rfl
  rw [c4] at hlen
  have hx : ∀ i, i < 3 → ∃ y, xs[i]? = some y := fun i hi => some_of_lt (by rw [hxl]; exact hi)
  obtain ⟨y0, h0⟩ := hx 0 (by omega)
  obtain ⟨y1, h1⟩ := hx 1 (by omega)
  obtain ⟨y2, h2⟩ := hx 2 (by omega)
  have g0 := (hf 0 _ rfl).trans h0
  have g1 := (hf 1 _ rfl).trans h1
  have g2 := (hf 2 _ rfl).trans h2
  simp only [List.getElem_toArray, List.getElem_cons_zero, List.getElem_cons_succ] at g0 g1 g2
  rw [c1] at g0
  rw [c2] at g1
  rw [c3] at g2
  obtain ⟨i, e0, -, w0⟩ := DataW.trod_int Tryd.underlying22 g0
  obtain ⟨A, c, l, e1, a1, a2, a3, a4, a5, a6⟩ := trod_cavs g1
  obtain ⟨tag, e2, b1, b2⟩ := trod_digest g2
  refine ⟨i.toNat, A, c, l, tag, ?_, (u32_toNat w0).2, a1, a2, a3, a4, a5, b1, b2, fun M hM => a6 M fun n hn => hM n ?_⟩
  · have : cs = (cs.drop 0).take 1 ++ ((cs.drop 1).take 1 ++ ((cs.drop 2).take 32 ++ cs.drop 34)) := by
      rw [← drop_split cs 2 32, ← drop_split cs 1 1, ← drop_split cs 0 1]
      rfl
    rw [this, e0, e1, e2, List.drop_eq_nil_of_le (by omega)]
    simp [tokv, (u32_toNat w0).1]
  · rw [hx0]
    unfold DataW.weights
    rw [Tryd.underlying30]
    exact DataW.weights_mem_each (j := 1) rfl (by rw [List.getElem?_map, h1]; rfl) n hn

/-- A caveat. -/
theorem trod_cav {fuel : Nat} {cs : List Value} {x : DataW H × List MemPlace} (h : DataW.trod enc Tryd.prog W base (fun _ => true) held fuel 37 cs = some x) :
    ∃ (k : Int) (N : Nat), cs = [.int .i64 k, .int .u32 N] ∧ (Lit.int .i64 k).wf = true ∧ N < 4294967296 := by
  obtain ⟨xs, n, -, hx0, hlen, hxl, hf⟩ := DataW.trod_struct Tryd.underlying37 h
  have c1 : (Tryd.prog).cellsOf 3 = 1 := by kernel_rfl
  have c2 : (Tryd.prog).cellsOf 22 = 1 := by kernel_rfl
  have c4 : (Tryd.prog).cellsOf 37 = 2 := by kernel_rfl
  rw [c4] at hlen
  have hx : ∀ i, i < 2 → ∃ y, xs[i]? = some y := fun i hi => some_of_lt (by rw [hxl]; exact hi)
  obtain ⟨y0, h0⟩ := hx 0 (by omega)
  obtain ⟨y1, h1⟩ := hx 1 (by omega)
  have g0 := (hf 0 _ rfl).trans h0
  have g1 := (hf 1 _ rfl).trans h1
  simp only [List.getElem_toArray, List.getElem_cons_zero, List.getElem_cons_succ] at g0 g1
  rw [c1] at g0
  rw [c2] at g1
  obtain ⟨k, e0, -, w0⟩ := DataW.trod_int Tryd.underlying3 g0
  obtain ⟨N, e1, -, w1⟩ := DataW.trod_int Tryd.underlying22 g1
  refine ⟨k, N.toNat, ?_, w0, (u32_toNat w1).2⟩
  have : cs = (cs.drop 0).take 1 ++ ((cs.drop 1).take 1 ++ cs.drop 2) := by
    rw [← drop_split cs 1 1, ← drop_split cs 0 1]
    rfl
  rw [this, e0, e1, List.drop_eq_nil_of_le (by omega)]
  simp [(u32_toNat w1).1]
end

end Go.Proofs.YtamhggndcegndaaDoor
