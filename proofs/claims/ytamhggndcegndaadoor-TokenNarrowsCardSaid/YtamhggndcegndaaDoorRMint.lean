/-
  deponentref12.Mint: as token.Mint.
-/
import Derived.Test.YtamhggndcegndaaDoorRMac
import Derived.Test.YtamhggndcegndaaDoorMint
import Derived.Test.YtamhggndcegndaaDoorRef2
namespace Go.Proofs.YtamhggndcegndaaDoor
open Go.RowKit
set_option linter.unusedVariables false
set_option maxRecDepth 100000

-- END BY HAND
set_option maxHeartbeats 2000000 in
theorem ref12_mint (g : Nat) (root : List Nat) (id : Nat) (w : World) (hl : root.length = 32) (hr : ∀ x ∈ root, x < 256) (hid : id < 4294967296) (hT : RTab w g) :
    Calls Tryd.prog 19 #[.pointer (some ⟨g, 0, none⟩), .agg (byv root).toArray, .int .u32 id] w fun e w' => e = .returned (.agg (tokv id (.slice none 0 0) (mintTag root id)).toArray) ∧ Below w.heap.size w w' := by
  have lR : (byv root).length = 32 := by rw [byv_length]; exact hl
  obtain ⟨V, hV⟩ : ∃ V, byv root = V := ⟨_, rfl⟩
  rw [hV] at lR ⊢
  obtain ⟨W0, hW0⟩ : ∃ x, x = (w.alloc (.cells V.toArray 28)).alloc (.cells #[.int .u32 0, .slice none 0 0, .int .u8 0, .int .u8 0, .int .u8 0, .int .u8 0, .int .u8 0, .int .u8 0, .int .u8 0, .int .u8 0, .int .u8 0, .int .u8 0, .int .u8 0, .int .u8 0, .int .u8 0, .int .u8 0, .int .u8 0, .int .u8 0, .int .u8 0, .int .u8 0, .int .u8 0, .int .u8 0, .int .u8 0, .int .u8 0, .int .u8 0, .int .u8 0, .int .u8 0, .int .u8 0, .int .u8 0, .int .u8 0, .int .u8 0, .int .u8 0, .int .u8 0, .int .u8 0] 30) := ⟨_, rfl⟩
  have k0 : Blk W0 w.heap.size 28 V.toArray := by rw [hW0]; exact (Blk.new w _ _).alloc _
  have z0 : Blk W0 (w.heap.size + 1) 30 #[.int .u32 0, .slice none 0 0, .int .u8 0, .int .u8 0, .int .u8 0, .int .u8 0, .int .u8 0, .int .u8 0, .int .u8 0, .int .u8 0, .int .u8 0, .int .u8 0, .int .u8 0, .int .u8 0, .int .u8 0, .int .u8 0, .int .u8 0, .int .u8 0, .int .u8 0, .int .u8 0, .int .u8 0, .int .u8 0, .int .u8 0, .int .u8 0, .int .u8 0, .int .u8 0, .int .u8 0, .int .u8 0, .int .u8 0, .int .u8 0, .int .u8 0, .int .u8 0, .int .u8 0, .int .u8 0] := by
    have h := Blk.new (w.alloc (.cells V.toArray 28)) 30 #[.int .u32 0, .slice none 0 0, .int .u8 0, .int .u8 0, .int .u8 0, .int .u8 0, .int .u8 0, .int .u8 0, .int .u8 0, .int .u8 0, .int .u8 0, .int .u8 0, .int .u8 0, .int .u8 0, .int .u8 0, .int .u8 0, .int .u8 0, .int .u8 0, .int .u8 0, .int .u8 0, .int .u8 0, .int .u8 0, .int .u8 0, .int .u8 0, .int .u8 0, .int .u8 0, .int .u8 0, .int .u8 0, .int .u8 0, .int .u8 0, .int .u8 0, .int .u8 0, .int .u8 0, .int .u8 0]
    rw [alloc_size] at h
    rw [hW0]
    exact h
  have b0 : Below w.heap.size w W0 := by rw [hW0]; exact below_new (below_new (Below.refl _ _) _) _
  have u0 : IntKind.u64.wrap (id : Int) = id := by rw [IntKind.wrap_u64]; omega
  have lW : w.heap.size + 1 < W0.heap.size := z0.lt
  have glt : g < w.heap.size := Blk.lt hT
  have HLR := Lib.hid lR
  have HV := Lib.hid hV
  have HW0 := Lib.hid hW0
  have Ht := Lib.hid hT
  have Hr := Lib.hid hr
  have Hl := Lib.hid hl
  have HK0 := Lib.hid k0
  have HZ0 := Lib.hid z0
  have HB0 := Lib.hid b0
  clear lR hV hW0 hT hr hl k0 z0 b0
  go_enter Tryd.func19, Tryd.ntmps19
  go_upto_region 1 with (fail)
  rw [← HW0.out]
  obtain ⟨S, HS⟩ : ∃ S : World → Prop, Hid (∀ w', S w') := ⟨fun _ => True, fun _ => trivial⟩
  refine wp_region_seq S 10 [(0, false), (1, false), (2, false), (5, false), (6, false), (3, true), (4, true), (7, true), (8, true), (9, false), (10, true)] (by kernel_rfl) rfl (by kernel_rfl) (by kernel_rfl) (by kernel_rfl) (fun _ _ d _ _ h => by cases d <;> exact h) (HS.out _) ?_
  iterate 5 (refine wpSeq_read rfl rfl ⟨?_, fun w1 hS => ?_, ?_⟩; rotate_left; (focus (go_simp; (try go_bits); try rfl)); simp only [Act.put, List.setIfInBounds_toArray, List.set_cons_zero, List.set_cons_succ])
  obtain ⟨Wd, hWd⟩ : ∃ x, x = W0.drew := ⟨_, rfl⟩
  rw [← hWd]
  have kd : Blk Wd w.heap.size 28 V.toArray := by rw [hWd]; exact HK0.out
  have zd : Blk Wd (w.heap.size + 1) 30 #[.int .u32 0, .slice none 0 0, .int .u8 0, .int .u8 0, .int .u8 0, .int .u8 0, .int .u8 0, .int .u8 0, .int .u8 0, .int .u8 0, .int .u8 0, .int .u8 0, .int .u8 0, .int .u8 0, .int .u8 0, .int .u8 0, .int .u8 0, .int .u8 0, .int .u8 0, .int .u8 0, .int .u8 0, .int .u8 0, .int .u8 0, .int .u8 0, .int .u8 0, .int .u8 0, .int .u8 0, .int .u8 0, .int .u8 0, .int .u8 0, .int .u8 0, .int .u8 0, .int .u8 0, .int .u8 0] := by rw [hWd]; exact HZ0.out
  have bd : Below w.heap.size w Wd := by rw [hWd]; exact HB0.out.drew
  have ld : w.heap.size + 1 < Wd.heap.size := zd.lt
  clear hWd HK0 HZ0 HB0 HW0
  obtain ⟨w1, hw1⟩ : ∃ x, x = Wd.alloc (.cells (byv tokenText).toArray 5) := ⟨_, rfl⟩
  have e1 : w1.heap[Wd.heap.size]? = some (.cells (byv tokenText).toArray 5 (0, 0)) := by rw [hw1]; exact heap_alloc_new Wd _
  have b1 : Below Wd.heap.size Wd w1 := by rw [hw1]; exact (Below.refl _ _).alloc (Nat.le_refl _) _
  have s1 : w1.heap.size = Wd.heap.size + 1 := by rw [hw1, alloc_size]
  have E1 := Lib.hid hw1
  have S1 := Lib.hid s1
  clear hw1 s1
  refine wpSeq_write rfl rfl ?_
  go_simp
  refine ⟨by first | exact HS.out _ | exact fun _ => HS.out _, ?_⟩
  change wpSeq _ _ _ _ _ _ _ (Wd.alloc (.cells (byv tokenText).toArray 5))
  rw [← E1.out]
  try simp only [Act.put, List.setIfInBounds_toArray, List.set_cons_zero, List.set_cons_succ]
  refine wpSeq_write rfl rfl ?_
  refine wp_mark (.tmp 10) rfl Wd.heap.size 5 5 rfl _ e1 ?_
  intro w2 g2 l2
  refine ⟨by first | exact HS.out _ | exact fun _ => HS.out _, ?_⟩
  have b2 : Below Wd.heap.size Wd w2 := b1.grown g2 (by have := S1.out; omega) (by intro g hg; injection hg with hg; omega)
  have r2 := l2.reads
  rw [show tokenText.length = 5 from rfl] at r2
  have N2 := ref2_number (some ⟨Wd.heap.size, 0, none⟩) 5 5 id 4 tokenText w2 r2 (by decide) (by omega)
  rw [show sizeN 4 = 4 from rfl] at N2
  have HN2 := Lib.hid N2
  have HB2 := Lib.hid b2
  clear N2 r2 b2 b1 e1 g2 l2
  try simp only [Act.put, List.setIfInBounds_toArray, List.set_cons_zero, List.set_cons_succ]
  refine wpSeq_write rfl rfl ?_
  go_simp
  refine HN2.out.mono ?_
  rintro e w3 ⟨v3, rfl, own3, b3⟩
  obtain ⟨A3, n3, c3, rfl, nc3, -, r3⟩ := own3.sl
  have ln3 := reads_bytes_le r3
  rw [List.length_append, be_length, show tokenText.length = 5 from rfl] at ln3
  have B3 := HB2.out.trans (b3.mono HB2.out.size)
  have k3 := kd.below B3 kd.lt
  rw [← HV.out] at k3
  have rk := reads_blk k3 (p := 0) (by omega)
  rw [Hl.out, List.drop_zero] at rk
  have BB3 := bd.trans (B3.mono bd.size)
  have T3 : RTab w3 g := (show RTab w g from Ht.out).below BB3 glt
  have M3 := ref1_mac g 32 32 n3 c3 _ A3 root (tokenText ++ be id 4) w3 T3 rk r3 Hr.out (by intro x hx; rcases List.mem_append.1 hx with h | h; exact tokenText_lt x h; exact be_lt _ _ x h) (by omega) (by omega)
  have HM3 := Lib.hid M3
  have Z3 := Lib.hid (zd.below B3 ld)
  have HBB3 := Lib.hid BB3
  clear M3 ln3 own3 r3 rk k3 b3 B3 BB3 T3 kd zd bd
  refine ⟨by first | exact HS.out _ | exact fun _ => HS.out _, ?_⟩
  try simp only [Act.put, List.setIfInBounds_toArray, List.set_cons_zero, List.set_cons_succ]
  refine wpSeq_write rfl rfl ?_
  go_simp
  refine HM3.out.mono ?_
  rintro e w7 ⟨rfl, b7⟩
  rw [show mac root (tokenText ++ be id 4) = mintTag root id from rfl]
  have lM : (byv (mintTag root id)).length = 32 := by rw [byv_length]; exact mac_length _ _
  have oT := tokv_one id (.slice none 0 0) rfl (mintTag root id)
  have bT := built_token0 id (byv (mintTag root id)) lM (byv_one _)
  have hT : (Value.int .u32 (id : Int) :: Value.slice none 0 0 :: byv (mintTag root id)) = tokv id (.slice none 0 0) (mintTag root id) := rfl
  have lT := tokv_len id (.slice none 0 0) (mintTag root id) (mac_length _ _)
  rw [hT] at bT
  obtain ⟨T, hTT⟩ : ∃ T, tokv id (.slice none 0 0) (mintTag root id) = T := ⟨_, rfl⟩
  rw [hTT] at bT oT lT
  obtain ⟨D, hD⟩ : ∃ D, byv (mintTag root id) = D := ⟨_, rfl⟩
  rw [hD] at bT ⊢
  have BT := Lib.hid bT
  have HTT := Lib.hid hTT
  have HI := Lib.hid (show (Tryd.prog.info? 30).map (·.size) = some T.length by rw [lT]; exact Tryd.tok_info)
  have z7 := Z3.out.below b7 Z3.out.lt
  have b77 := HBB3.out.trans (b7.mono HBB3.out.size)
  clear bT hTT hD hT lM
  refine ⟨by first | exact HS.out _ | exact fun _ => HS.out _, ?_⟩
  try simp only [Act.put, List.setIfInBounds_toArray, List.set_cons_zero, List.set_cons_succ]
  refine wpSeq_read rfl rfl ⟨.agg T.toArray, fun w1 hS => ?_, ?_⟩
  · exact run_built 30 _ rfl _ _ BT.out (by simp [Act.eval])
  try simp only [Act.put, List.setIfInBounds_toArray, List.set_cons_zero, List.set_cons_succ]
  refine wpSeq_write rfl rfl ?_
  refine wp_store_row 30 (.tmp 6) (.tmp 16) rfl (w.heap.size + 1) T.toArray rfl rfl 30 _ z7 (by simpa using HI.out) (by simp [lT]) (by simpa using oT) ?_
  refine ⟨fun h => absurd h (by omega), ?_⟩
  refine wpSeq_nil ?_
  go_wp2_with fail
  have z8 := z7.setRow T.toArray
  have HRZ := rangeAt_blk z8 0 T (fun j u h => by simpa using h)
  exact bodyPost_ret (v := .agg T.toArray) (results_cell rfl rfl (run_loadVar_mid _ _ 0 _ T _ HRZ Tryd.underlying30 rfl HI.out)) rfl ⟨by rw [HTT.out], below_setRow b77 (by omega) _⟩

end Go.Proofs.YtamhggndcegndaaDoor
