/-
  deponentlaw12.root, deponentlaw12.known.
-/
import Derived.Test.YtamhggndcegndaaDoorHolds
import Derived.Test.YtamhggndcegndaaDoorWithin
namespace Go.Proofs.YtamhggndcegndaaDoor
open Go.RowKit
set_option linter.unusedVariables false
set_option maxRecDepth 100000

/-- Some key. -/
def rootb (c : Nat) : List Nat := c :: 1 :: 2 :: List.replicate 29 0

theorem rootb_length (c : Nat) : (rootb c).length = 32 := by simp [rootb]

theorem rootb_lt (c : Nat) (h : c < 256) : ∀ x ∈ rootb c, x < 256 := by
  intro x hx
  simp only [rootb, List.mem_cons, List.mem_replicate] at hx
  omega

set_option maxHeartbeats 1000000 in
theorem law_root (c : Nat) (w : World) : Calls Tryd.prog 11 #[.int .u8 c] w fun e w' => e = .returned (.agg (byv (rootb c)).toArray) ∧ Below w.heap.size w w' := by
  have z := Blk.new w 28 #[.int .u8 0, .int .u8 0, .int .u8 0, .int .u8 0, .int .u8 0, .int .u8 0, .int .u8 0, .int .u8 0, .int .u8 0, .int .u8 0, .int .u8 0, .int .u8 0, .int .u8 0, .int .u8 0, .int .u8 0, .int .u8 0, .int .u8 0, .int .u8 0, .int .u8 0, .int .u8 0, .int .u8 0, .int .u8 0, .int .u8 0, .int .u8 0, .int .u8 0, .int .u8 0, .int .u8 0, .int .u8 0, .int .u8 0, .int .u8 0, .int .u8 0, .int .u8 0]
  have lD : (byv (rootb c)).length = 32 := by rw [byv_length, rootb_length]
  have oD := byv_one (rootb c)
  have HI := Lib.hid (show (Tryd.prog.info? 28).map (·.size) = some (byv (rootb c)).toArray.size by rw [List.size_toArray, lD]; exact Tryd.dig_info)
  have HlD := Lib.hid lD
  have HoD := Lib.hid oD
  have Z := Lib.hid z
  clear z lD oD
  go_enter Tryd.func11, Tryd.ntmps11
  go_wp2_with (refine wpList_store_row rfl 28 (.tmp 2) (.tmp 4) rfl w.heap.size (byv (rootb c)).toArray rfl rfl 28 _ Z.out HI.out (by simp [HlD.out]) (by simpa using HoD.out) ?_)
  have z8 := Z.out.setRow (byv (rootb c)).toArray
  have HRZ := rangeAt_blk z8 0 (byv (rootb c)) (fun j u h => by simpa using h)
  exact bodyPost_ret (v := .agg (byv (rootb c)).toArray) (results_cell rfl rfl (run_loadVar_mid _ _ 0 _ (byv (rootb c)) _ HRZ Tryd.underlying28 rfl (by simpa using HI.out))) rfl ⟨rfl, below_setRow (below_new (Below.refl _ _) _) (Nat.le_refl _) _⟩

/-- Minted and narrowed: what genuine tokens are. -/
def Gen (root : List Nat) (t : Tok) : Prop := genGo (minted root t.1) t.2.1 = some t

theorem gen_minted (root : List Nat) (id : Nat) : Gen root (minted root id) := rfl

theorem narRes_ok0 {t : Tok} {c : Int × Nat} (h : (narRes t c).2 = 0) : narRes t c = ((t.1, t.2.1 ++ [c], mac t.2.2 (cavText c)), 0) := by
  unfold narRes at h ⊢
  split at h
  · split at h
    · rename_i h1 h2
      rw [if_pos h1, if_pos h2]
    · simp at h
  · simp at h

theorem gen_narrow {root : List Nat} {t : Tok} {c : Int × Nat} (h : Gen root t) (h0 : (narRes t c).2 = 0) : Gen root (narRes t c).1 := by
  have e := narRes_ok0 h0
  unfold Gen at h ⊢
  have e1 : (narRes t c).1.1 = t.1 := by rw [e]
  have e2 : (narRes t c).1.2.1 = t.2.1 ++ [c] := by rw [e]
  rw [e1, e2, genGo_append, h]
  simp [genGo, h0]

theorem gen_true {root : List Nat} {t : Tok} (h : Gen root t) : genuineB root t = true := by
  unfold genuineB
  rw [h]
  simp

theorem known12_false : genuineB (rootb 1) (8, [], mintTag (rootb 1) 7) = false := by
  have h : (mintTag (rootb 1) 8 == mintTag (rootb 1) 7) = false := by kernel_rfl
  exact h

end Go.Proofs.YtamhggndcegndaaDoor
