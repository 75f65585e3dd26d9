/-
  token.Mint, token.Narrow.
-/
import Derived.Test.YtamhggndcegndaaDoorTokB
import Derived.Test.YtamhggndcegndaaDoorCav
import Derived.Test.YtamhggndcegndaaDoorMac
import Derived.Test.YtamhggndcegndaaDoorTwo
namespace Go.Proofs.YtamhggndcegndaaDoor
open Go.RowKit
set_option linter.unusedVariables false
set_option maxRecDepth 100000

def tokenText : List Nat := [116, 111, 107, 101, 110]
theorem tokenText_lt : ∀ x ∈ tokenText, x < 256 := by decide

def mintTag (root : List Nat) (id : Nat) : List Nat := mac root (tokenText ++ be id 4)

theorem mac_length (k b : List Nat) : (mac k b).length = 32 := sha_length _
theorem mac_lt (k b : List Nat) : ∀ x ∈ mac k b, x < 256 := sha_lt _

/-- These cells lie in block g, marked or not. -/
def Lies (w : World) (g : Nat) (C : Array Value) : Prop := ∃ fr, w.heap[g]? = some (.cells C 5 fr)

theorem Lies.grown {w w' : World} {g : Nat} {C : Array Value} {row : Option Nat} (h : Lies w g C) (hb : w.grownBy w' row) (hne : some g ≠ row) : Lies w' g C := by
  obtain ⟨fr, h⟩ := h
  have hlt : g < w.heap.size := by
    rcases Nat.lt_or_ge g w.heap.size with hlt | hge
    · exact hlt
    · rw [Array.getElem?_eq_none hge] at h; cases h
  exact ⟨fr, (hb.block g hlt hne).trans h⟩

theorem Lies.lt {w : World} {g : Nat} {C : Array Value} (h : Lies w g C) : g < w.heap.size := by
  obtain ⟨fr, h⟩ := h
  rcases Nat.lt_or_ge g w.heap.size with hlt | hge
  · exact hlt
  · rw [Array.getElem?_eq_none hge] at h; cases h

theorem Lies.below {w w' : World} {g B : Nat} {C : Array Value} (h : Lies w g C) (hb : Below B w w') (hg : g < B) : Lies w' g C := by
  obtain ⟨fr, h⟩ := h
  exact ⟨fr, (hb.block g hg).trans h⟩

theorem Lies.reads {w : World} {g : Nat} {l : List Nat} (h : Lies w g (byv l).toArray) : Reads w w.heap.size 1 (some ⟨g, 0, none⟩) l.length (byv l) := by
  refine ⟨by simp [byv], fun _ => ⟨_, rfl, h.lt, fun j u hu => ?_⟩⟩
  obtain ⟨fr, h⟩ := h
  rw [Addr.add_mid, cell_of_row w g _ _ _ _ h]
  simpa using hu

/-- []byte of bytes that the call has just laid: the block is marked. -/
theorem run_mark (w : World) (g : Nat) (C : Array Value) (n c : Nat) (h : w.heap[g]? = some (.cells C 5 (0, 0))) :
    ∃ w', (convert 57 57 (.slice (some ⟨g, 0, none⟩) n c)).run Tryd.prog w = .ok (.slice (some ⟨g, 0, none⟩) n c) w' ∧ w.grownBy w' (some g) ∧ Lies w' g C := by
  have hsh : w.shape? g = some (5, C.size) := by
    unfold World.shape?
    rw [h]
  refine ⟨w.freeze ⟨g, C.size, none⟩ 1, ?_, ⟨rfl, rfl, rfl, ?_, ?_⟩, ?_⟩
  · simp [convert, run_underlying Tryd.underlying57, run_underlying Tryd.underlying5, markStringish, hsh]
  · simp [World.freeze]
  · intro i hi hne
    unfold World.freeze
    rw [if_neg (by decide)]
    simp only [Array.getElem?_modify]
    rw [if_neg (fun e => hne (by rw [e]))]
  · unfold Lies World.freeze
    rw [if_neg (by decide)]
    simp only [Array.getElem?_modify, if_true, h, Option.map_some]
    exact ⟨_, rfl⟩

theorem wp_mark {w : World} {o : Oper} {a : Act} {K : Act → World → Prop} {Q : Exit → Act → World → Prop} (x : Operand) (ho : o.op = .convert 57 57 x) (g n c : Nat) (hx : a.eval x = .slice (some ⟨g, 0, none⟩) n c)
    (C : Array Value) (h : w.heap[g]? = some (.cells C 5 (0, 0)))
    (k : ∀ w', w.grownBy w' (some g) → Lies w' g C → K (a.put o.dst (.slice (some ⟨g, 0, none⟩) n c)) w') : o.wp Tryd.prog a w K Q := by
  obtain ⟨w', h1, h2, h3⟩ := run_mark w g C n c h
  unfold Oper.wp execOp
  simp only [ho, hx, Sem.run_bind, Sem.run_pure, Result.andThen_ok, h1]
  exact k w' h2 h3

theorem OwnB.grown {w w' : World} {base : Nat} {v : Value} {bs : List Nat} {g : Nat} (h : OwnB w base v bs) (hg : w.grownBy w' (some g)) (hlt : g < base) : OwnB w' base v bs :=
  World.ownsRow.kept h hg (.inr fun e => by have := (World.ownsRow.lt h g e).1; omega)

-- END BY HAND
set_option maxHeartbeats 4000000 in
theorem token_mint (root : List Nat) (id : Nat) (w : World) (hl : root.length = 32) (hr : ∀ x ∈ root, x < 256) (hid : id < 4294967296) (ht : Tabs w) :
    Calls Tryd.prog 10 #[.agg (byv root).toArray, .int .u32 id] w fun e w' => e = .returned (.agg (tokv id (.slice none 0 0) (mintTag root id)).toArray) ∧ Below w.heap.size w w' := by
  have lR : (byv root).length = 32 := by rw [byv_length]; exact hl
  obtain ⟨V, hV⟩ : ∃ V, byv root = V := ⟨_, rfl⟩
  rw [hV] at lR ⊢
  obtain ⟨W0, hW0⟩ : ∃ x, x = (w.alloc (.cells V.toArray 28)).alloc (.cells #[.int .u32 0, .slice none 0 0, .int .u8 0, .int .u8 0, .int .u8 0, .int .u8 0, .int .u8 0, .int .u8 0, .int .u8 0, .int .u8 0, .int .u8 0, .int .u8 0, .int .u8 0, .int .u8 0, .int .u8 0, .int .u8 0, .int .u8 0, .int .u8 0, .int .u8 0, .int .u8 0, .int .u8 0, .int .u8 0, .int .u8 0, .int .u8 0, .int .u8 0, .int .u8 0, .int .u8 0, .int .u8 0, .int .u8 0, .int .u8 0, .int .u8 0, .int .u8 0, .int .u8 0, .int .u8 0] 30) := ⟨_, rfl⟩
  have k0 : Blk W0 w.heap.size 28 V.toArray := by rw [hW0]; exact (Blk.new w _ _).alloc _
  have z0 : Blk W0 (w.heap.size + 1) 30 #[.int .u32 0, .slice none 0 0, .int .u8 0, .int .u8 0, .int .u8 0, .int .u8 0, .int .u8 0, .int .u8 0, .int .u8 0, .int .u8 0, .int .u8 0, .int .u8 0, .int .u8 0, .int .u8 0, .int .u8 0, .int .u8 0, .int .u8 0, .int .u8 0, .int .u8 0, .int .u8 0, .int .u8 0, .int .u8 0, .int .u8 0, .int .u8 0, .int .u8 0, .int .u8 0, .int .u8 0, .int .u8 0, .int .u8 0, .int .u8 0, .int .u8 0, .int .u8 0, .int .u8 0, .int .u8 0] := by
    have h := Blk.new (w.alloc (.cells V.toArray 28)) 30 #[.int .u32 0, .slice none 0 0, .int .u8 0, .int .u8 0, .int .u8 0, .int .u8 0, .int .u8 0, .int .u8 0, .int .u8 0, .int .u8 0, .int .u8 0, .int .u8 0, .int .u8 0, .int .u8 0, .int .u8 0, .int .u8 0, .int .u8 0, .int .u8 0, .int .u8 0, .int .u8 0, .int .u8 0, .int .u8 0, .int .u8 0, .int .u8 0, .int .u8 0, .int .u8 0, .int .u8 0, .int .u8 0, .int .u8 0, .int .u8 0, .int .u8 0, .int .u8 0, .int .u8 0, .int .u8 0]
    rw [alloc_size] at h
    rw [hW0]
    exact h
  have b0 : Below w.heap.size w W0 := by rw [hW0]; exact below_new (below_new (Below.refl _ _) _) _
  have u0 : IntKind.u64.wrap (id : Int) = id := by rw [IntKind.wrap_u64]; omega
  have e4 : sizeN 4 = 4 := rfl
  have HLR := Lib.hid lR
  have HV := Lib.hid hV
  have HW0 := Lib.hid hW0
  have Ht := Lib.hid ht
  have Hr := Lib.hid hr
  have Hl := Lib.hid hl
  clear lR hV hW0 ht hr hl
  go_enter Tryd.func10, Tryd.ntmps10
  go_wp2_with fail
  rw [← HW0.out]
  refine (new_writer W0).mono ?_
  rintro e w1 ⟨rfl, hw1, hb1⟩
  have lW : w.heap.size + 1 < W0.heap.size := z0.lt
  have k1 := k0.below hb1 k0.lt
  have z1 := z0.below hb1 z0.lt
  have b1 := b0.trans (hb1.mono b0.size)
  clear k0 z0 b0 hb1
  go_wp2_with fail
  refine (writer_number _ _ id 4 [] w1 hw1 (by omega) (by simp)).mono ?_
  rintro e w2 ⟨rfl, hw2, hb2, -⟩
  rw [e4, List.nil_append] at hw2
  have k2 := k1.below hb2 (by omega)
  have z2 := z1.below hb2 lW
  have b2 := b1.trans (hb2.mono (by omega))
  clear k1 z1 b1 hb2 hw1
  go_wp2_with fail
  obtain ⟨S, HS⟩ : ∃ S : World → Prop, Hid (∀ w', S w') := ⟨fun _ => True, fun _ => trivial⟩
  refine wp_region_fork S 10 [13, 14, 16] [(0, false), (1, false), (4, false)] 3 (.two 2 (.two 3 (.one 5 .done) 5 (.one 3 .done)) 5 (.one 2 (.one 3 .done))) [(6, true), (7, true), (8, true), (9, false), (10, true)] #[true, true, false, false, true, false, false, false, false, false, false] #[true, true, true, true, true, true, false, false, false, false, false] (by kernel_rfl) rfl (by kernel_rfl) (by kernel_rfl) (by kernel_rfl) (by kernel_rfl) (by kernel_rfl) (fun _ _ d _ _ h => by cases d <;> exact h) (HS.out _) ?_
  iterate 3 (refine wpSteps_read rfl rfl ⟨?_, fun w1 hS => ?_, ?_⟩; rotate_left; (focus (go_simp; (try go_bits); try rfl)); simp only [Act.put, List.setIfInBounds_toArray, List.set_cons_zero, List.set_cons_succ])
  refine wpSteps_nil ?_
  have hwd : Wri w2.drew W0.heap.size W0.heap.size (be id 4) := hw2.kept_call (Below.refl _ _).drew
  have bd : Below w2.heap.size w2 w2.drew := (Below.refl _ _).drew
  have hl4 : (be id 4).length ≤ 140737488355328 := by rw [be_length]; omega
  clear hw2
  refine ⟨fun vs w' => ∃ g v, vs = [.slice (some ⟨g, 0, none⟩) 5 5, .slice (some ⟨g, 0, none⟩) 5 5, v] ∧ Reads w' w'.heap.size 1 (some ⟨g, 0, none⟩) 5 (byv tokenText) ∧ OwnB w' w2.heap.size v (be id 4) ∧ Below w2.heap.size w2 w', ?_, ?_⟩
  · refine wpTree_two rfl rfl rfl rfl ?_ ?_
    · go_simp
      refine ⟨HS.out _, ?_⟩
      obtain ⟨w3, hw3⟩ : ∃ x, x = (w2.alloc (.cells (byv tokenText).toArray 5)).drew := ⟨_, rfl⟩
      have e3 : w3.heap[w2.heap.size]? = some (.cells (byv tokenText).toArray 5 (0, 0)) := by rw [hw3]; exact heap_alloc_new w2 _
      have b3 : Below w2.heap.size w2 w3 := by rw [hw3]; exact ((Below.refl _ _).alloc (Nat.le_refl _) _).drew
      have s3 : w3.heap.size = w2.heap.size + 1 := by rw [hw3, drew_size, alloc_size]
      have h3 := hwd.kept_call (w1 := w3) ⟨b3.os, b3.tape, b3.output, b3.size, b3.block⟩
      have E3 := Lib.hid hw3
      change wpTree _ _ _ _ _ _ _ ((w2.alloc (.cells (byv tokenText).toArray 5)).drew)
      rw [← E3.out]
      clear hw3
      refine wpTree_two rfl rfl rfl rfl ?_ ?_
      · refine wp_mark (.tmp 13) rfl w2.heap.size 5 5 rfl _ e3 ?_
        intro w4 g4 l4
        refine ⟨HS.out _, ?_⟩
        try simp only [Act.put, List.setIfInBounds_toArray, List.set_cons_zero, List.set_cons_succ]
        refine wpTree_one rfl rfl ?_
        go_simp
        have b4 : Below w2.heap.size w2 w4 := b3.grown g4 (by omega) (by intro g hg; injection hg with hg; omega)
        have h4 : Wri w4 W0.heap.size W0.heap.size (be id 4) := hwd.kept_call (w1 := w4) ⟨b4.os, b4.tape, b4.output, b4.size, b4.block⟩
        refine (writer_done _ _ _ _ h4 hl4).mono ?_
        rintro e w5 ⟨v, rfl, ho, hb⟩
        refine ⟨HS.out _, wpTree_done ⟨[.slice (some ⟨w2.heap.size, 0, none⟩) 5 5, .slice (some ⟨w2.heap.size, 0, none⟩) 5 5, v], rfl, w2.heap.size, v, rfl, (l4.below hb l4.lt).reads, ?_, ?_⟩⟩
        · have := (show OwnB w5 w4.heap.size v (be id 4) from ho).mono (base' := w2.heap.size) (by have := g4.size; omega)
          exact this
        · exact ((b3.grown g4 (by omega) (by intro g hg; injection hg with hg; omega))).trans (hb.mono (by have := g4.size; omega))
      · go_simp
        refine (writer_done _ _ _ _ h3 hl4).mono ?_
        rintro e w4 ⟨v, rfl, ho, hb⟩
        refine ⟨HS.out _, ?_⟩
        try simp only [Act.put, List.setIfInBounds_toArray, List.set_cons_zero, List.set_cons_succ]
        refine wpTree_one rfl rfl ?_
        refine wp_mark (.tmp 13) rfl w2.heap.size 5 5 rfl _ ((hb.block _ (by omega)).trans e3) ?_
        intro w5 g5 l5
        refine ⟨HS.out _, wpTree_done ⟨[.slice (some ⟨w2.heap.size, 0, none⟩) 5 5, .slice (some ⟨w2.heap.size, 0, none⟩) 5 5, v], rfl, w2.heap.size, v, rfl, l5.reads, ?_, ?_⟩⟩
        · exact ((show OwnB w4 w3.heap.size v (be id 4) from ho).grown g5 (by omega)).mono (by omega)
        · exact (b3.trans (hb.mono (by omega))).grown g5 (by have := hb.size; omega) (by intro g hg; injection hg with hg; omega)
    · go_simp
      refine (writer_done _ _ _ _ hwd hl4).mono ?_
      rintro e w3 ⟨v, rfl, ho, hb⟩
      have hb' : Below w2.heap.size w2 w3 := ⟨hb.os, hb.tape, hb.output, hb.size, hb.block⟩
      have ho' : OwnB w3 w2.heap.size v (be id 4) := ho
      refine ⟨HS.out _, ?_⟩
      try simp only [Act.put, List.setIfInBounds_toArray, List.set_cons_zero, List.set_cons_succ]
      refine wpTree_one rfl rfl ?_
      go_simp
      refine ⟨HS.out _, ?_⟩
      have e4 : (w3.alloc (.cells (byv tokenText).toArray 5)).heap[w3.heap.size]? = some (.cells (byv tokenText).toArray 5 (0, 0)) := heap_alloc_new w3 _
      refine wpTree_one rfl rfl ?_
      refine wp_mark (.tmp 13) rfl w3.heap.size 5 5 rfl _ e4 ?_
      intro w5 g5 l5
      refine ⟨HS.out _, wpTree_done ⟨[.slice (some ⟨w3.heap.size, 0, none⟩) 5 5, .slice (some ⟨w3.heap.size, 0, none⟩) 5 5, v], rfl, w3.heap.size, v, rfl, l5.reads, ?_, ?_⟩⟩
      · have h4 : OwnB (w3.alloc (.cells (byv tokenText).toArray 5)) w2.heap.size v (be id 4) := ho'.alloc _
        refine World.ownsRow.kept h4 g5 (.inr fun e => ?_)
        have := (World.ownsRow.lt ho' _ e).2
        omega
      · exact (hb'.alloc hb'.size _).grown g5 (by have := hb'.size; simp only [alloc_size]; omega) (by intro g hg; injection hg with hg; have := hb'.size; omega)
  · rintro vs w4 - ⟨g, v, rfl, r4, o4, b4⟩
    simp only [puts, Act.put, List.setIfInBounds_toArray, List.set_cons_zero, List.set_cons_succ]
    obtain ⟨A4, n4, c4, rfl, nc4, -, rv⟩ := o4.sl
    have ln4 := reads_bytes_le rv
    rw [be_length] at ln4
    obtain ⟨w5, hw5⟩ : ∃ x, x = w4.alloc (.cells #[.slice (some ⟨g, 0, none⟩) 5 5, .slice A4 n4 c4] 57) := ⟨_, rfl⟩
    have x0 : w5.cell? ⟨w4.heap.size, 0, none⟩ = some (.slice (some ⟨g, 0, none⟩) 5 5) := by rw [hw5]; exact (cell_made w4 _ _ 0).trans rfl
    have x1 : w5.cell? ⟨w4.heap.size, 1, none⟩ = some (.slice A4 n4 c4) := by rw [hw5]; exact (cell_made w4 _ _ 1).trans rfl
    have b5 : Below w4.heap.size w4 w5 := by rw [hw5]; exact (Below.refl _ _).alloc (Nat.le_refl _) _
    have J := sha_join w4.heap.size 5 5 n4 c4 _ _ tokenText (be id 4) w5 x0 x1 (r4.call b5) (rv.call b5) (by omega)
    have LN4 := Lib.hid ln4
    clear ln4
    have k5 := (k2.below b4 k2.lt).below b5 (Nat.lt_of_lt_of_le k2.lt b4.size)
    have z5 := (z2.below b4 z2.lt).below b5 (Nat.lt_of_lt_of_le z2.lt b4.size)
    have b25 := (b2.trans (b4.mono b2.size)).trans (b5.mono (Nat.le_trans b2.size b4.size))
    have t5 : Tabs w5 := Ht.out.below b25 Ht.out.size
    have HJ := Lib.hid J
    have K5 := Lib.hid k5
    have Z5 := Lib.hid z5
    have B25 := Lib.hid b25
    have T5 := Lib.hid t5
    have Hw5 := Lib.hid hw5
    clear J k5 z5 b25 t5 hw5 x0 x1 r4 o4 b4 rv b5 k2 z2 b2 hwd bd
    refine wpSeq_write rfl rfl ?_
    go_simp
    refine ⟨HS.out _, ?_⟩
    rw [← Hw5.out]
    refine wpSeq_write rfl rfl ?_
    go_simp
    refine HJ.out.mono ?_
    rintro e w6 ⟨v6, rfl, own6, b6⟩
    obtain ⟨A6, n6, c6, rfl, nc6, -, r6⟩ := own6.sl
    have ln6 := reads_bytes_le r6
    rw [List.length_append, be_length, show tokenText.length = 5 from rfl] at ln6
    have k6 := K5.out.below b6 K5.out.lt
    rw [← HV.out] at k6
    have rk := reads_blk k6 (p := 0) (by omega)
    rw [Hl.out, List.drop_zero] at rk
    have M6 := sha_mac 32 32 n6 c6 _ A6 root (tokenText ++ be id 4) w6 rk r6 Hr.out (by intro x hx; rcases List.mem_append.1 hx with h | h; exact tokenText_lt x h; exact be_lt _ _ x h) (by omega) (by omega) (T5.out.below b6 T5.out.size)
    have HM6 := Lib.hid M6
    clear ln6
    have B6 := Lib.hid b6
    clear M6 b6 own6 r6 rk k6
    refine ⟨HS.out _, ?_⟩
    try simp only [Act.put, List.setIfInBounds_toArray, List.set_cons_zero, List.set_cons_succ]
    refine wpSeq_write rfl rfl ?_
    go_simp
    refine HM6.out.mono ?_
    rintro e w7 ⟨rfl, b7⟩
    rw [show mac root (tokenText ++ be id 4) = mintTag root id from rfl]
    have lM : (byv (mintTag root id)).length = 32 := by rw [byv_length]; exact mac_length _ _
    have oT := tokv_one id (.slice none 0 0) rfl (mintTag root id)
    have bT := built_token0 id (byv (mintTag root id)) lM (byv_one _)
    have hT : (Value.int .u32 (id : Int) :: Value.slice none 0 0 :: byv (mintTag root id)) = tokv id (.slice none 0 0) (mintTag root id) := rfl
    have lT := tokv_len id (.slice none 0 0) (mintTag root id) (mac_length _ _)
    rw [hT] at bT
    obtain ⟨T, hTT⟩ : ∃ T, tokv id (.slice none 0 0) (mintTag root id) = T := ⟨_, rfl⟩
    rw [hTT] at bT oT lT
    obtain ⟨D, hD⟩ : ∃ D, byv (mintTag root id) = D := ⟨_, rfl⟩
    rw [hD] at bT ⊢
    have BT := Lib.hid bT
    have HTT := Lib.hid hTT
    have HI := Lib.hid (show (Tryd.prog.info? 30).map (·.size) = some T.length by rw [lT]; exact Tryd.tok_info)
    have z7 := (Z5.out.below B6.out Z5.out.lt).below b7 (Nat.lt_of_lt_of_le Z5.out.lt B6.out.size)
    have b77 := (B25.out.trans (B6.out.mono B25.out.size)).trans (b7.mono (Nat.le_trans B25.out.size B6.out.size))
    clear bT hTT hD hT lM
    refine ⟨HS.out _, ?_⟩
    try simp only [Act.put, List.setIfInBounds_toArray, List.set_cons_zero, List.set_cons_succ]
    refine wpSeq_read rfl rfl ⟨.agg T.toArray, fun w1 hS => ?_, ?_⟩
    · exact run_built 30 _ rfl _ _ BT.out (by simp [Act.eval])
    try simp only [Act.put, List.setIfInBounds_toArray, List.set_cons_zero, List.set_cons_succ]
    refine wpSeq_write rfl rfl ?_
    refine wp_store_row 30 (.tmp 4) (.tmp 20) rfl (w.heap.size + 1) T.toArray rfl rfl 30 _ z7 (by simpa using HI.out) (by simp [lT]) (by simpa using oT) ?_
    refine ⟨fun h => absurd h (by omega), ?_⟩
    refine wpSeq_nil ?_
    go_wp2_with fail
    have z8 := z7.setRow T.toArray
    have HRZ := rangeAt_blk z8 0 T (fun j u h => by simpa using h)
    exact bodyPost_ret (v := .agg T.toArray) (results_cell rfl rfl (run_loadVar_mid _ _ 0 _ T _ HRZ Tryd.underlying30 rfl HI.out)) rfl ⟨by rw [HTT.out], below_setRow b77 (by omega) _⟩

end Go.Proofs.YtamhggndcegndaaDoor
