/-
  deponentref18.Head: a head's bytes.
-/
import Derived.Test.YtbkdccamimakoaaDoorBld
import Derived.Test.YtbkdccamimakoaaDoorRef2
namespace Go.Proofs.YtbkdccamimakoaaDoor
open Go.RowKit
set_option linter.unusedVariables false
set_option maxRecDepth 100000


-- END BY HAND
set_option maxHeartbeats 4000000 in
theorem ref18_headW (h : Hd) (A : Option Addr) (L c : Nat) (bs : List Nat) (w : World) (ho : h.Ok) (h1 : 0 ≤ h.tree ∧ h.tree ≤ 255) (h2 : 0 ≤ h.epoch ∧ h.epoch ≤ 2147483647) (hr : Reads w w.heap.size 1 A L (byv bs)) (hl : bs.length ≤ 4000000000) :
    Calls Tryd.prog 52 #[.slice A L c, .agg (hdv h).toArray] w fun e w' => ∃ v, e = .returned v ∧ OwnB w' w.heap.size v (bs ++ hdB h) ∧ Below w.heap.size w w' := by
  obtain ⟨kt, hkt⟩ : ∃ n : Nat, h.tree = n := ⟨h.tree.toNat, by omega⟩
  obtain ⟨ke, hke⟩ : ∃ n : Nat, h.epoch = n := ⟨h.epoch.toNat, by omega⟩
  have kt1 : kt ≤ 255 := by omega
  have ke1 : ke ≤ 2147483647 := by omega
  have hB : hdB h = be kt 1 ++ (be ke 4 ++ (be h.size 8 ++ (be h.clock 8 ++ (h.root ++ h.tag)))) := by
    unfold hdB
    rw [hkt, hke, Int.toNat_natCast, Int.toNat_natCast]
  have hks := ho.size
  have hkc := ho.clock
  have lrt := ho.rootl
  have ltg := ho.tagl
  have e0 : (hdv h)[0]? = some (.int .i64 (kt : Int)) := by rw [← hkt]; rfl
  have e1 : (hdv h)[1]? = some (.int .i64 (ke : Int)) := by rw [← hke]; rfl
  have e2 : (hdv h)[2]? = some (.int .u64 (h.size : Int)) := rfl
  have e3 : (hdv h)[3]? = some (.int .u64 (h.clock : Int)) := rfl
  have er : ∀ j u, (byv h.root)[j]? = some u → (hdv h)[4 + j]? = some u := fun j u hu => by
    rw [hdv_split]
    refine getElem?_pre _ _ ?_
    rw [show 4 + j = j + 1 + 1 + 1 + 1 from by omega]
    exact hu
  have et : ∀ j u, (byv h.tag)[j]? = some u → (hdv h)[36 + j]? = some u := fun j u hu => by rw [hdv_split]; exact getElem?_post 36 (headv_len h lrt) j u hu
  obtain ⟨V, hV⟩ : ∃ V, hdv h = V := ⟨_, rfl⟩
  rw [hV] at e0 e1 e2 e3 er et ⊢
  obtain ⟨ks, hks'⟩ : ∃ x, h.size = x := ⟨_, rfl⟩
  obtain ⟨kc, hkc'⟩ : ∃ x, h.clock = x := ⟨_, rfl⟩
  obtain ⟨rt, hrt⟩ : ∃ x, h.root = x := ⟨_, rfl⟩
  obtain ⟨tg, htg⟩ : ∃ x, h.tag = x := ⟨_, rfl⟩
  rw [hks'] at hB hks e2
  rw [hkc'] at hB hkc e3
  rw [hrt] at hB er lrt
  rw [htg] at hB et ltg
  rw [hB]
  have t0 : Blk (w.alloc (.cells V.toArray 55)) w.heap.size 55 V.toArray := Blk.new w _ _
  have r0 := hr.laid (.cells V.toArray 55)
  have b0 : Below w.heap.size w (w.alloc (.cells V.toArray 55)) := below_new (Below.refl _ _) _
  obtain ⟨W0, hW0⟩ : ∃ x, x = w.alloc (.cells V.toArray 55) := ⟨_, rfl⟩
  rw [← hW0] at t0 r0 b0
  have c0 := (t0.cell 0).trans (show V.toArray[0]? = _ by simpa using e0)
  have c1 := (t0.cell 1).trans (show V.toArray[1]? = _ by simpa using e1)
  have HL := reads_bytes_le hr
  have HLL := Lib.hid HL
  have l4 : L ≤ 4000000000 := by omega
  have E2 := Lib.hid e2
  have E3 := Lib.hid e3
  have ER := Lib.hid er
  have ET := Lib.hid et
  have T0 := Lib.hid t0
  have R0 := Lib.hid r0
  have B0 := Lib.hid b0
  have HW0 := Lib.hid hW0
  have LRT := Lib.hid lrt
  have LTG := Lib.hid ltg
  have w1 : IntKind.u8.wrap (kt : Int) = kt := IntWalk.u8_in _ (by omega)
  have w2 : IntKind.u32.wrap (ke : Int) = ke := by rw [IntKind.wrap_u32]; omega
  have w3 : IntKind.u64.wrap (ke : Int) = ke := IntWalk.u64_in _ (by omega)
  clear hB hkt hke h1 h2 ho hks' hkc' hrt htg lrt ltg e0 e1 e2 e3 er et hV t0 r0 b0 hW0 hr hl HL
  go_enter Tryd.func52, Tryd.ntmps52
  go_upto_region 1 with (fail)
  rw [← HW0.out]
  obtain ⟨S, HS⟩ : ∃ S : World → Prop, Hid (∀ w', S w' = (w'.cell? ⟨w.heap.size, 0, none⟩ = some (.int .i64 (kt : Int)) ∧ w'.cell? ⟨w.heap.size, 1, none⟩ = some (.int .i64 (ke : Int)))) := ⟨_, fun _ => rfl⟩
  refine wp_region_fork S 16 [5, 7, 12] [(1, false), (3, false), (4, false), (5, false), (6, false), (9, false), (10, false), (11, false), (12, false), (13, false)] 3 (.two 0 (.two 2 (.one 7 .done) 7 (.one 2 .done)) 7 (.one 0 (.one 2 .done))) [(8, true), (14, true), (15, false)] #[false, true, false, true, true, true, true, false, false, true, true, true, true, true, false, false] #[true, true, true, true, true, true, true, true, false, true, true, true, true, true, false, false] (by kernel_rfl) rfl (by kernel_rfl) (by kernel_rfl) (by kernel_rfl) (by kernel_rfl) (by kernel_rfl) (fun _ _ d _ _ h => by cases d <;> exact h) ((HS.out _).mpr ⟨c0, c1⟩) ?_
  iterate 10 (refine wpSteps_read rfl rfl ⟨?_, fun w1 hS => ?_, ?_⟩; rotate_left; (focus (rw [HS.out] at hS; go_split_ands; go_simp; (try go_bits); try rfl)); simp only [Act.put, List.setIfInBounds_toArray, List.set_cons_zero, List.set_cons_succ])
  refine wpSteps_nil ?_
  obtain ⟨Wd, hWd⟩ : ∃ x, x = W0.drew := ⟨_, rfl⟩
  rw [← hWd]
  have rd : Reads Wd Wd.heap.size 1 A L (byv bs) := by rw [hWd]; exact R0.out.drewS
  have d0 : Wd.cell? ⟨w.heap.size, 0, none⟩ = some (.int .i64 (kt : Int)) := by rw [hWd]; exact c0
  have d1 : Wd.cell? ⟨w.heap.size, 1, none⟩ = some (.int .i64 (ke : Int)) := by rw [hWd]; exact c1
  have TD := Lib.hid (show Blk Wd w.heap.size 55 V.toArray by rw [hWd]; exact T0.out.drew)
  have BD := Lib.hid (show Below w.heap.size w Wd by rw [hWd]; exact B0.out.drew)
  have sz : w.heap.size < Wd.heap.size := TD.out.lt
  clear hWd c0 c1 T0 R0 B0
  have SK : ∀ w', Below Wd.heap.size Wd w' → S w' := fun w' hb => (HS.out _).mpr ⟨(hb.cell (p := ⟨w.heap.size, 0, none⟩) sz).trans d0, (hb.cell (p := ⟨w.heap.size, 1, none⟩) sz).trans d1⟩
  refine ⟨fun vs w' => ∃ g5 v g, vs = [.slice (some ⟨g5, 0, none⟩) 0 0, v, .slice (some ⟨g, 0, none⟩) 1 1] ∧ OwnB w' Wd.heap.size v bs ∧ Reads w' w'.heap.size 1 (some ⟨g, 0, none⟩) 1 (byv [kt]) ∧ Below Wd.heap.size Wd w', ?_, ?_⟩
  · refine wpTree_two rfl rfl rfl rfl ?_ ?_
    · refine wp_build_none rfl ?_
      have b1 : Below Wd.heap.size Wd (Wd.alloc (.cells #[] 5)) := (Below.refl _ _).alloc (Nat.le_refl _) _
      have o1 : OwnB (Wd.alloc (.cells #[] 5)) Wd.heap.size (.slice (some ⟨Wd.heap.size, 0, none⟩) 0 0) [] := OwnB.made Wd [] (by simp [maxLen])
      have r1 := rd.laid (.cells #[] 5)
      have s1 : (Wd.alloc (.cells #[] 5)).heap.size = Wd.heap.size + 1 := by simp
      refine ⟨SK _ b1, ?_⟩
      try simp only [Act.put, List.setIfInBounds_toArray, List.set_cons_zero, List.set_cons_succ]
      obtain ⟨w1, hw1⟩ : ∃ x, x = Wd.alloc (.cells #[] 5) := ⟨_, rfl⟩
      rw [← hw1] at b1 o1 r1 s1 ⊢
      clear hw1
      refine wpTree_two rfl rfl rfl rfl ?_ ?_
      · refine wp_append_bytes (.tmp 5) (.tmp 6) rfl Wd.heap.size _ [] rfl o1 A L c bs rfl r1 (by simp; omega) (by omega) ?_
        intro v w2 o2 b2 g2
        rw [List.nil_append] at o2
        have b3 := b1.trans b2
        refine ⟨SK _ b3, ?_⟩
        try simp only [Act.put, List.setIfInBounds_toArray, List.set_cons_zero, List.set_cons_succ]
        refine wpTree_one rfl rfl ?_
        refine wp_build_byte (.tmp 11) rfl (kt : Int) rfl ?_
        exact ⟨SK _ (b3.alloc b3.size _), wpTree_done ⟨[.slice (some ⟨Wd.heap.size, 0, none⟩) 0 0, v, .slice (some ⟨w2.heap.size, 0, none⟩) 1 1], rfl, Wd.heap.size, v, w2.heap.size, rfl, o2.alloc _, reads_one w2 kt, b3.alloc b3.size _⟩⟩
      · refine wp_build_byte (.tmp 11) rfl (kt : Int) rfl ?_
        have b2 := b1.alloc b1.size (.cells #[.int .u8 (kt : Int)] 5)
        have o2 := o1.alloc (.cells #[.int .u8 (kt : Int)] 5)
        have r2 := r1.laid (.cells #[.int .u8 (kt : Int)] 5)
        have q2 := Blk.new w1 5 #[.int .u8 (kt : Int)]
        refine ⟨SK _ b2, ?_⟩
        try simp only [Act.put, List.setIfInBounds_toArray, List.set_cons_zero, List.set_cons_succ]
        refine wpTree_one rfl rfl ?_
        refine wp_append_bytes (.tmp 5) (.tmp 6) rfl Wd.heap.size _ [] rfl o2 A L c bs rfl r2 (by simp; omega) b2.size ?_
        intro v w3 o3 b3 g3
        rw [List.nil_append] at o3
        have q3 := q2.grown g3 (fun e => by have e' : w1.heap.size = Wd.heap.size := Option.some.inj e; omega)
        have b4 := b2.trans b3
        exact ⟨SK _ b4, wpTree_done ⟨[.slice (some ⟨Wd.heap.size, 0, none⟩) 0 0, v, .slice (some ⟨w1.heap.size, 0, none⟩) 1 1], rfl, Wd.heap.size, v, w1.heap.size, rfl, o3, reads_blk1 q3, b4⟩⟩
    · refine wp_build_byte (.tmp 11) rfl (kt : Int) rfl ?_
      have b1 : Below Wd.heap.size Wd (Wd.alloc (.cells #[.int .u8 (kt : Int)] 5)) := (Below.refl _ _).alloc (Nat.le_refl _) _
      have r1 := rd.laid (.cells #[.int .u8 (kt : Int)] 5)
      have q1 := Blk.new Wd 5 #[.int .u8 (kt : Int)]
      have s1 : (Wd.alloc (.cells #[.int .u8 (kt : Int)] 5)).heap.size = Wd.heap.size + 1 := by simp
      refine ⟨SK _ b1, ?_⟩
      try simp only [Act.put, List.setIfInBounds_toArray, List.set_cons_zero, List.set_cons_succ]
      obtain ⟨w1, hw1⟩ : ∃ x, x = Wd.alloc (.cells #[.int .u8 (kt : Int)] 5) := ⟨_, rfl⟩
      rw [← hw1] at b1 r1 q1 s1 ⊢
      clear hw1
      refine wpTree_one rfl rfl ?_
      refine wp_build_none rfl ?_
      have b2 := b1.alloc b1.size (.cells #[] 5)
      have o2 : OwnB (w1.alloc (.cells #[] 5)) w1.heap.size (.slice (some ⟨w1.heap.size, 0, none⟩) 0 0) [] := OwnB.made w1 [] (by simp [maxLen])
      have r2 := r1.laid (.cells #[] 5)
      have q2 := q1.alloc (.cells #[] 5)
      refine ⟨SK _ b2, ?_⟩
      try simp only [Act.put, List.setIfInBounds_toArray, List.set_cons_zero, List.set_cons_succ]
      refine wpTree_one rfl rfl ?_
      refine wp_append_bytes (.tmp 5) (.tmp 6) rfl Wd.heap.size _ [] rfl (o2.mono (by omega)) A L c bs rfl r2 (by simp; omega) b2.size ?_
      intro v w3 o3 b3 g3
      rw [List.nil_append] at o3
      have q3 := q2.grown g3 (fun e => by have e' : Wd.heap.size = w1.heap.size := Option.some.inj e; omega)
      have b4 := b2.trans b3
      exact ⟨SK _ b4, wpTree_done ⟨[.slice (some ⟨w1.heap.size, 0, none⟩) 0 0, v, .slice (some ⟨Wd.heap.size, 0, none⟩) 1 1], rfl, w1.heap.size, v, Wd.heap.size, rfl, o3, reads_blk1 q3, b4⟩⟩
  · rintro vs w4 - ⟨g5, v, g, rfl, o4, r4, b4⟩
    simp only [puts, Act.put, List.setIfInBounds_toArray, List.set_cons_zero, List.set_cons_succ]
    refine wpSeq_write rfl rfl ?_
    refine wp_append_bytes (.tmp 7) (.tmp 12) rfl Wd.heap.size v bs rfl o4 _ 1 1 [kt] rfl r4 (by have := HLL.out; omega) b4.size ?_
    intro v5 w5 o5 b5' g5'
    obtain ⟨A5, n5, c5, rfl, -, -, r5⟩ := o5.sl
    have b5 := b4.trans b5'
    refine ⟨by first | exact SK _ b5 | exact fun _ => SK _ b5, ?_⟩
    try simp only [Act.put, List.setIfInBounds_toArray, List.set_cons_zero, List.set_cons_succ]
    refine wpSeq_write rfl rfl ?_
    go_simp
    refine (ref2_number A5 n5 c5 ke 4 _ _ r5 (by have := HLL.out; simp only [List.length_append, List.length_cons, List.length_nil]; omega) (by omega)).mono ?_
    rintro e w6 ⟨v6, rfl, o6, b6'⟩
    rw [show sizeN 4 = 4 from rfl] at o6
    have b6 := b5.trans (b6'.mono b5.size)
    refine ⟨by first | exact SK _ b6 | exact fun _ => SK _ b6, ?_⟩
    try simp only [Act.put, List.setIfInBounds_toArray, List.set_cons_zero, List.set_cons_succ]
    repeat (refine wpSeq_read rfl rfl ⟨?_, fun w1 hS => ?_, ?_⟩; rotate_left; (focus (rw [HS.out] at hS; go_split_ands; go_simp; (try go_bits); try rfl)); simp only [Act.put, List.setIfInBounds_toArray, List.set_cons_zero, List.set_cons_succ])
    refine wpSeq_nil ?_
    have OW := Lib.hid (o6.mono b5.size)
    have BW := Lib.hid b6
    have sz6 : Wd.heap.size ≤ w6.heap.size := b6.size
    clear SK d0 d1 rd o4 r4 b4 o5 b5' g5' r5 b5 b6' b6 o6 HS
    obtain ⟨A6, n6, c6, rfl, -, -, r6⟩ := OW.out.sl
    have sz6' : w.heap.size < w6.heap.size := by omega
    have t6 := TD.out.below BW.out sz
    have d2 := (t6.cell 2).trans (show V.toArray[2]? = _ by simpa using E2.out)
    have d3 := (t6.cell 3).trans (show V.toArray[3]? = _ by simpa using E3.out)
    go_upto_region 2 with (fail)
    obtain ⟨S, HS⟩ : ∃ S : World → Prop, Hid (∀ w', S w' = (w'.cell? ⟨w.heap.size, 2, none⟩ = some (.int .u64 (ks : Int)) ∧ w'.cell? ⟨w.heap.size, 3, none⟩ = some (.int .u64 (kc : Int)))) := ⟨_, fun _ => rfl⟩
    refine wp_region_seq S 10 [(0, false), (1, false), (2, false), (3, false), (5, false), (6, false), (7, false), (4, true), (8, true), (9, false)] (by kernel_rfl) rfl (by kernel_rfl) (by kernel_rfl) (by kernel_rfl) (fun _ _ d _ _ h => by cases d <;> exact h) ((HS.out _).mpr ⟨d2, d3⟩) ?_
    repeat (refine wpSeq_read rfl rfl ⟨?_, fun w1 hS => ?_, ?_⟩; rotate_left; (focus (rw [HS.out] at hS; go_split_ands; go_simp; (try go_bits); try rfl)); simp only [Act.put, List.setIfInBounds_toArray, List.set_cons_zero, List.set_cons_succ])
    have SK2 : ∀ w', Below w6.heap.size w6 w' → S w' := fun w' hb => (HS.out _).mpr ⟨(hb.cell (p := ⟨w.heap.size, 2, none⟩) sz6').trans d2, (hb.cell (p := ⟨w.heap.size, 3, none⟩) sz6').trans d3⟩
    refine wpSeq_write rfl rfl ?_
    go_simp
    refine (ref2_number A6 n6 c6 ks 8 _ _ (show Reads w6.drew w6.drew.heap.size 1 A6 n6 _ from r6) (by have := HLL.out; simp only [List.length_append, List.length_cons, List.length_nil, be_length]; omega) (by omega)).mono ?_
    rintro e w7 ⟨v7, rfl, o7, b7'⟩
    rw [show sizeN 8 = 8 from rfl] at o7
    have b7 : Below w6.heap.size w6 w7 := below_undrew b7'
    have o7' : OwnB w7 w6.heap.size v7 _ := o7
    obtain ⟨A7, n7, c7, rfl, -, -, r7⟩ := o7'.sl
    refine ⟨by first | exact SK2 _ b7 | exact fun _ => SK2 _ b7, ?_⟩
    try simp only [Act.put, List.setIfInBounds_toArray, List.set_cons_zero, List.set_cons_succ]
    refine wpSeq_write rfl rfl ?_
    go_simp
    refine (ref2_number A7 n7 c7 kc 8 _ _ r7 (by have := HLL.out; simp only [List.length_append, List.length_cons, List.length_nil, be_length]; omega) (by omega)).mono ?_
    rintro e w8 ⟨v8, rfl, o8, b8'⟩
    rw [show sizeN 8 = 8 from rfl] at o8
    have b8 := b7.trans (b8'.mono b7.size)
    refine ⟨by first | exact SK2 _ b8 | exact fun _ => SK2 _ b8, ?_⟩
    try simp only [Act.put, List.setIfInBounds_toArray, List.set_cons_zero, List.set_cons_succ]
    repeat (refine wpSeq_read rfl rfl ⟨?_, fun w1 hS => ?_, ?_⟩; rotate_left; (focus (rw [HS.out] at hS; go_split_ands; go_simp; (try go_bits); try rfl)); simp only [Act.put, List.setIfInBounds_toArray, List.set_cons_zero, List.set_cons_succ])
    refine wpSeq_nil ?_
    have o8' := o8.mono (show w6.heap.size ≤ w7.heap.size from b7.size)
    have bw8 := BW.out.trans (b8.mono sz6)
    have t8 := TD.out.below bw8 sz
    have sz8 := bw8.size
    have hrr : Reads w8 w8.heap.size 1 (some ⟨w.heap.size, 4, none⟩) 32 (byv rt) := by
      refine ⟨by rw [byv_length, LRT.out], fun _ => ⟨_, rfl, by show w.heap.size < _; omega, fun j u hu => ?_⟩⟩
      rw [Addr.add_mid, t8.cell (4 + j)]
      simpa using ER.out j u hu
    have O8 := Lib.hid (o8'.mono sz6)
    have BW8 := Lib.hid bw8
    have HRR := Lib.hid hrr
    clear SK2 d2 d3 t6 o7 o7' b7' b7 r7 o8 o8' b8' b8 bw8 t8 hrr r6 HS OW BW
    go_wp2_with (at_builtin; refine append_bytes rfl (.tmp 29) (.tmp 32) rfl Wd.heap.size _ _ rfl O8.out _ 32 32 rt rfl HRR.out (by have := HLL.out; simp only [List.length_append, List.length_cons, List.length_nil, be_length]; omega) (by omega) ?_)
    intro v9 w9 o9 b9 g9
    have bw9 := BW8.out.trans b9
    have t9 := TD.out.below bw9 sz
    have sz9 := bw9.size
    have O9 := Lib.hid o9
    have BW9 := Lib.hid bw9
    have HRT := Lib.hid (show Reads w9 w9.heap.size 1 (some ⟨w.heap.size, 36, none⟩) 32 (byv tg) by
      refine ⟨by rw [byv_length, LTG.out], fun _ => ⟨_, rfl, by show w.heap.size < _; omega, fun j u hu => ?_⟩⟩
      rw [Addr.add_mid, t9.cell (36 + j)]
      simpa using ET.out j u hu)
    clear o9 b9 g9 bw9 t9 HRR O8 BW8
    go_wp2_with (at_builtin; refine append_bytes rfl (.tmp 34) (.tmp 36) rfl Wd.heap.size _ _ rfl O9.out _ 32 32 tg rfl HRT.out (by have := HLL.out; have := LRT.out; simp only [List.length_append, List.length_cons, List.length_nil, be_length]; omega) (by omega) ?_)
    intro va wa oa ba ga
    have HO : Hid (OwnB wa w.heap.size va (bs ++ (be kt 1 ++ (be ke 4 ++ (be ks 8 ++ (be kc 8 ++ (rt ++ tg))))))) := by
      have h := oa.mono (show w.heap.size ≤ Wd.heap.size by omega)
      rw [be_one kt, Nat.mod_eq_of_lt (by omega)]
      show OwnB wa w.heap.size va _
      simpa [List.append_assoc] using h
    have HBF := Lib.hid (BD.out.trans ((BW9.out.trans ba).mono (show w.heap.size ≤ Wd.heap.size by omega)))
    clear oa ba ga
    go_wp2
    go_ret
    exact ⟨_, rfl, HO.out, HBF.out⟩

end Go.Proofs.YtbkdccamimakoaaDoor
