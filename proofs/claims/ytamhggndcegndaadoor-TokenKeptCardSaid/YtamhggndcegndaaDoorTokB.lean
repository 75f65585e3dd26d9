/-
  Tokens: what walks with tokens want.
-/
import Derived.Test.YtamhggndcegndaaDoorCav
import Derived.Deep.MidRow
namespace Go.Proofs.YtamhggndcegndaaDoor
open Go.RowKit
set_option linter.unusedVariables false
set_option maxRecDepth 100000

theorem list32 {α : Type} : ∀ (l : List α), l.length = 32 → ∃ a0  a1  a2  a3  a4  a5  a6  a7  a8  a9  a10  a11  a12  a13  a14  a15  a16  a17  a18  a19  a20  a21  a22  a23  a24  a25  a26  a27  a28  a29  a30  a31, l = [a0, a1, a2, a3, a4, a5, a6, a7, a8, a9, a10, a11, a12, a13, a14, a15, a16, a17, a18, a19, a20, a21, a22, a23, a24, a25, a26, a27, a28, a29, a30, a31]
  | [a0, a1, a2, a3, a4, a5, a6, a7, a8, a9, a10, a11, a12, a13, a14, a15, a16, a17, a18, a19, a20, a21, a22, a23, a24, a25, a26, a27, a28, a29, a30, a31], _ => ⟨a0, a1, a2, a3, a4, a5, a6, a7, a8, a9, a10, a11, a12, a13, a14, a15, a16, a17, a18, a19, a20, a21, a22, a23, a24, a25, a26, a27, a28, a29, a30, a31, rfl⟩

/-- A struct out of its parts, as a read. -/
theorem run_built {P : Program} {a : Act} {w : World} {o : Oper} (t : TypeId) (parts : Array (Nat × Operand)) (ho : o.op = .build t parts) (cells : Array Value) (l : List (Nat × Value))
    (h : P.built t l = some cells) (hl : (parts.map fun (i, x) => (i, a.eval x)).toList = l) : (execOp a.eval o).run P w = .ok (.value (.agg cells)) w := by
  subst hl
  unfold execOp
  simp only [ho, Sem.run_bind, run_build w t _ cells h, Result.andThen_ok, Sem.run_pure]

theorem built_token0 (id : Nat) (M : List Value) (h : M.length = 32) (h1 : ∀ v ∈ M, v.oneCell' = true) : Tryd.prog.built 30 [(0, .int .u32 id), (2, .agg M.toArray)] = some (Value.int .u32 (id : Int) :: .slice none 0 0 :: M).toArray := by
  obtain ⟨a0, a1, a2, a3, a4, a5, a6, a7, a8, a9, a10, a11, a12, a13, a14, a15, a16, a17, a18, a19, a20, a21, a22, a23, a24, a25, a26, a27, a28, a29, a30, a31, rfl⟩ := list32 M h
  kernel_rfl

theorem built_token (id : Nat) (A : Option Addr) (n c : Nat) (M : List Value) (h : M.length = 32) : Tryd.prog.built 30 [(0, .int .u32 id), (1, .slice A n c), (2, .agg M.toArray)] = some (Value.int .u32 (id : Int) :: .slice A n c :: M).toArray := by
  obtain ⟨a0, a1, a2, a3, a4, a5, a6, a7, a8, a9, a10, a11, a12, a13, a14, a15, a16, a17, a18, a19, a20, a21, a22, a23, a24, a25, a26, a27, a28, a29, a30, a31, rfl⟩ := list32 M h
  kernel_rfl

abbrev Tok := Nat × List (Int × Nat) × List Nat

def zeroTok : Tok := (0, [], List.replicate 32 0)

theorem results_cell_tmp {fn : Func} {t s : Tmp} {ty : TypeId} {g : Nat} {P : Program} {w : World} {v : Value} {tmps : Array Value} (h : fn.results = #[.cell t ty, .tmp s]) (ht : tmps.getD t undef = .pointer (some ⟨g, 0, none⟩))
    (hl : (loadVar ty ⟨g, 0, none⟩).run P w = .ok v w) : (results fn tmps).run P w = .ok (.tuple #[v, tmps.getD s undef]) w := by
  unfold results
  rw [h]
  simp only [Array.getD_eq_getD_getElem?] at ht
  simp [ht, asAddr, hl, Sem.run_pure]

theorem wp_append_cavs {w : World} {o : Oper} {a : Act} {K : Act → World → Prop} {Q : Exit → Act → World → Prop} (s x : Operand)
    (ho : o.op = .call { callee := .builtin .append, args := #[s, x], argTypes := #[23, 23] })
    (base : Nat) (v : Value) (l : List (Int × Nat)) (hs : a.eval s = v) (hown : OwnC w base v l) (A : Option Addr) (m c : Nat) (news : List (Int × Nat)) (hx : a.eval x = .slice A m c) (hr : Reads w w.heap.size 2 A m (cavv news))
    (hlen : l.length + m ≤ 8796093022208) (hbase : base ≤ w.heap.size)
    (h : ∀ v' w', OwnC w' base v' (l ++ news) → Below base w w' → w.grownBy w' v.ownBlock → K (a.put o.dst v') w') : o.wp Tryd.prog a w K Q := by
  obtain ⟨i0, hi0, hz0, hz1, hz2⟩ := info_parts Tryd.cav_info
  have hm : news.length = m := by have := hr.1; rw [cavv_length] at this; omega
  refine wp_append_any (P := Tryd.prog) w s x _ ho base 37 i0 _ 2 16 Tryd.underlying23 hi0 hz0 hz1 hz2 rfl (by omega) v l.length (cavv l) hs hown w.heap.size A m c (cavv news) hx hr (cavv_one _) (by simp only [maxLen]; omega) (by omega) hbase ?_
  intro v' w' h1 h2 h3
  refine h v' w' ?_ ?_ h2
  · unfold OwnC
    rw [cavv_append, List.length_append, hm]
    exact h1
  · exact below_appended (Below.refl _ _) hown h2 (Nat.le_refl _) hbase

/-- Bytes in the middle of a block that is known whole. -/
theorem reads_mid {w : World} {g o n : Nat} {t : TypeId} {L : List Value} {xs : List Value} (h : Blk w g t L.toArray) (hn : xs.length = n) (hx : ∀ j u, xs[j]? = some u → L[o + j]? = some u) : Reads w w.heap.size 1 (some ⟨g, o, none⟩) n xs := by
  subst hn
  refine ⟨by simp, fun _ => ⟨_, rfl, h.lt, fun j u hu => ?_⟩⟩
  rw [Addr.add_mid, h.cell]
  simpa using hx j u hu

theorem load_tok {w : World} {g : Nat} {L : List Value} (h : Blk w g 30 L.toArray) (hl : L.length = 34) : (loadVar 30 ⟨g, 0, none⟩).run Tryd.prog w = .ok (.agg L.toArray) w :=
  run_loadVar_mid _ _ 0 _ L _ (rangeAt_blk h 0 L (fun j u h => by simpa using h)) Tryd.underlying30 rfl (by rw [hl]; exact Tryd.tok_info)

/-- The token of noughts. -/
def zeroTokv : List Value := tokv 0 (.slice none 0 0) (List.replicate 32 0)

theorem zeroTokv_one : zeroTokv.toArray.all (·.oneCell') = true := all_oneCell_toArray (tokv_one 0 (.slice none 0 0) rfl (List.replicate 32 0))

theorem zeroTokv_info : (Tryd.prog.info? 30).map (·.size) = some zeroTokv.toArray.size := by kernel_rfl

theorem zeroTokv_size : (#[.int .u32 0, .slice none 0 0, .int .u8 0, .int .u8 0, .int .u8 0, .int .u8 0, .int .u8 0, .int .u8 0, .int .u8 0, .int .u8 0, .int .u8 0, .int .u8 0, .int .u8 0, .int .u8 0, .int .u8 0, .int .u8 0, .int .u8 0, .int .u8 0, .int .u8 0, .int .u8 0, .int .u8 0, .int .u8 0, .int .u8 0, .int .u8 0, .int .u8 0, .int .u8 0, .int .u8 0, .int .u8 0, .int .u8 0, .int .u8 0, .int .u8 0, .int .u8 0, .int .u8 0, .int .u8 0] : Array Value).size = zeroTokv.toArray.size := rfl

theorem zeroTokv_eq : (#[.int .u32 0, .slice none 0 0, .int .u8 0, .int .u8 0, .int .u8 0, .int .u8 0, .int .u8 0, .int .u8 0, .int .u8 0, .int .u8 0, .int .u8 0, .int .u8 0, .int .u8 0, .int .u8 0, .int .u8 0, .int .u8 0, .int .u8 0, .int .u8 0, .int .u8 0, .int .u8 0, .int .u8 0, .int .u8 0, .int .u8 0, .int .u8 0, .int .u8 0, .int .u8 0, .int .u8 0, .int .u8 0, .int .u8 0, .int .u8 0, .int .u8 0, .int .u8 0, .int .u8 0, .int .u8 0] : Array Value) = zeroTokv.toArray := rfl

/-- What is read out of a token's bytes. -/
def Tok.Ok (t : Tok) : Prop := t.1 < 4294967296 ∧ (∀ c ∈ t.2.1, c.2 < 4294967296) ∧ t.2.2.length = 32 ∧ ∀ x ∈ t.2.2, x < 256

theorem Blk.setRow_far {w : World} {g k : Nat} {t : TypeId} {cs : Array Value} (h : Blk w k t cs) (hne : k ≠ g) (c' : Array Value) : Blk (w.setRow g c') k t cs :=
  h.grown (grown_setRow w g c') (fun e => by injection e with e; exact hne e)

end Go.Proofs.YtamhggndcegndaaDoor
