/-
  deponentbook.Same, deponentkeep.SameToken, SameRequest: of what is the same.
-/
import Derived.Test.YtbkdccamimakoaaKeep
import Derived.Deep.RegionHeld3
import Derived.Deep.Cut
namespace Go.Proofs.Ytbkdccamimakoaa
open Go.RowKit
set_option linter.unusedVariables false

set_option maxHeartbeats 1000000 in
theorem same_bytes (A B : Option Addr) (n c d : Nat) (bs : List Nat) (w : World) (ha : Reads w w.heap.size 1 A n (byv bs)) (hb : Reads w w.heap.size 1 B n (byv bs)) (hn : n ≤ 9223372036854775807) :
    Calls Try.prog 31 #[.slice A n c, .slice B n d] w fun e w' => e = .returned (.bool true) ∧ Below w.heap.size w w' := by
  have hl := reads_bytes_le ha
  have HL := Lib.hid hl
  clear hl
  go_enter Try.func31, Try.ntmps31
  go_wp2
  go_loopw [5] (fun i wr => ∃ k : Nat, k ≤ n ∧ i = .int .i64 k ∧ Below w.heap.size w wr) (fun i _ => n - (intOf i).toNat)
  case atStart => exact ⟨0, by omega, rfl, Below.refl _ _⟩
  case round =>
    obtain ⟨k, hk, rfl, hbr⟩ := hrel
    by_cases hlt : k < n
    · obtain ⟨b1, o1, rfl, -, hc1⟩ := (ha.below hbr).mid (by omega) (by omega)
      obtain ⟨b2, o2, rfl, -, hc2⟩ := (hb.below hbr).mid (by omega) (by omega)
      have hx : bs[k]? = some (bs[k]'(by rw [HL.out]; exact hlt)) := List.getElem?_eq_getElem _
      obtain ⟨x, hxe⟩ : ∃ x, bs[k]'(by rw [HL.out]; exact hlt) = x := ⟨_, rfl⟩
      rw [hxe] at hx
      have m1 := hc1 k (.int .u8 (x : Int)) (by simp [byv, hx])
      have m2 := hc2 k (.int .u8 (x : Int)) (by simp [byv, hx])
      clear hc1 hc2 hx hxe ha hb
      go_wp2_with fail
      obtain ⟨S, HS⟩ : ∃ S : World → Prop, Hid (∀ w', S w' = (w'.cell? ⟨b1, o1 + k, none⟩ = some (.int .u8 (x : Int)) ∧ w'.cell? ⟨b2, o2 + k, none⟩ = some (.int .u8 (x : Int)))) := ⟨_, fun _ => rfl⟩
      refine wp_region_seq S 9 [(0, false), (1, false), (2, false), (3, false), (4, false), (5, false), (6, false), (7, false), (8, false)] (by kernel_rfl) rfl (by kernel_rfl) (by kernel_rfl) (by kernel_rfl) (fun _ _ d _ _ h => by cases d <;> exact h) ((HS.out _).mpr ⟨m1, m2⟩) ?_
      repeat (refine wpSeq_read rfl rfl ⟨?_, fun w1 hS => ?_, ?_⟩; rotate_left; (focus (rw [HS.out] at hS; go_split_ands; go_simp; (try go_bits); try rfl)); simp only [Act.put, List.setIfInBounds_toArray, List.set_cons_zero, List.set_cons_succ])
      refine wpSeq_nil ?_
      have HB := Lib.hid hbr.drew
      clear hbr m1 m2 HS
      go_wp2
      go_roundw
      case rel => exact ⟨k + 1, by omega, by go_num, HB.out⟩
      case measure => simp [intOf]; omega
    · obtain rfl : k = n := by omega
      go_wp2
      go_ret
      exact ⟨rfl, hbr⟩

set_option maxHeartbeats 1000000 in
theorem same_cavs (A B : Option Addr) (n c d : Nat) (l : List (Int × Nat)) (w : World) (ha : Reads w w.heap.size 2 A n (cavv l)) (hb : Reads w w.heap.size 2 B n (cavv l)) (hn : n ≤ 4611686018427387903) :
    Calls Try.prog 42 #[.slice A n c, .slice B n d] w fun e w' => e = .returned (.bool true) ∧ Below w.heap.size w w' := by
  have hl : l.length = n := by have := ha.1; rw [cavv_length] at this; omega
  have HL := Lib.hid hl
  clear hl
  go_enter Try.func42, Try.ntmps42
  go_wp2
  go_loopw [5] (fun i wr => ∃ k : Nat, k ≤ n ∧ i = .int .i64 k ∧ Below w.heap.size w wr) (fun i _ => n - (intOf i).toNat)
  case atStart => exact ⟨0, by omega, rfl, Below.refl _ _⟩
  case round =>
    obtain ⟨k, hk, rfl, hbr⟩ := hrel
    by_cases hlt : k < n
    · obtain ⟨b1, o1, rfl, -, hc1⟩ := (ha.below hbr).mid (by omega) (by omega)
      obtain ⟨b2, o2, rfl, -, hc2⟩ := (hb.below hbr).mid (by omega) (by omega)
      have hx : l[k]? = some (l[k]'(by rw [HL.out]; exact hlt)) := List.getElem?_eq_getElem _
      obtain ⟨x, hxe⟩ : ∃ x, l[k]'(by rw [HL.out]; exact hlt) = x := ⟨_, rfl⟩
      rw [hxe] at hx
      obtain ⟨q0, q1⟩ := cavv_at l k x hx
      have m1 := hc1 _ _ q0
      have m2 := hc2 _ _ q0
      have p1 := hc1 _ _ q1
      have p2 := hc2 _ _ q1
      rw [← Nat.add_assoc] at p1 p2
      clear hc1 hc2 hx hxe ha hb q0 q1
      go_wp2_with fail
      obtain ⟨S, HS⟩ : ∃ S : World → Prop, Hid (∀ w', S w' = (w'.cell? ⟨b1, o1 + k * 2, none⟩ = some (.int .i64 x.1) ∧ w'.cell? ⟨b2, o2 + k * 2, none⟩ = some (.int .i64 x.1) ∧ w'.cell? ⟨b1, o1 + k * 2 + 1, none⟩ = some (.int .u32 (x.2 : Int)) ∧ w'.cell? ⟨b2, o2 + k * 2 + 1, none⟩ = some (.int .u32 (x.2 : Int)))) := ⟨_, fun _ => rfl⟩
      refine wp_region_seq S 9 [(0, false), (1, false), (2, false), (3, false), (4, false), (5, false), (6, false), (7, false), (8, false)] (by kernel_rfl) rfl (by kernel_rfl) (by kernel_rfl) (by kernel_rfl) (fun _ _ d _ _ h => by cases d <;> exact h) ((HS.out _).mpr ⟨m1, m2, p1, p2⟩) ?_
      repeat (refine wpSeq_read rfl rfl ⟨?_, fun w1 hS => ?_, ?_⟩; rotate_left; (focus (rw [HS.out] at hS; go_split_ands; go_simp; (try go_bits); try rfl)); simp only [Act.put, List.setIfInBounds_toArray, List.set_cons_zero, List.set_cons_succ])
      refine wpSeq_nil ?_
      have HB := Lib.hid hbr.drew
      clear hbr m1 m2 p1 p2 HS
      go_wp2
      go_roundw
      case rel => exact ⟨k + 1, by omega, by go_num, HB.out⟩
      case measure => simp [intOf]; omega
    · obtain rfl : k = n := by omega
      go_wp2
      go_ret
      exact ⟨rfl, hbr⟩

set_option maxRecDepth 100000 in
set_option maxHeartbeats 1000000 in
theorem same_token (id : Nat) (A B : Option Addr) (n c d : Nat) (l : List (Int × Nat)) (tag : List Nat) (w : World) (ht : tag.length = 32) (htb : ∀ b ∈ tag, b < 256) (ha : Reads w w.heap.size 2 A n (cavv l)) (hb : Reads w w.heap.size 2 B n (cavv l)) (hn : n ≤ 4611686018427387903) :
    Calls Try.prog 30 #[.agg (tokv id (.slice A n c) tag).toArray, .agg (tokv id (.slice B n d) tag).toArray] w fun e w' => e = .returned (.bool true) ∧ Below w.heap.size w w' := by
  have hdig := fun w => run_eql_digest w tag tag ht ht htb htb
  simp only [beq_self_eq_true] at hdig
  have d0 : (tokv id (.slice A n c) tag)[0]? = some (.int .u32 (id : Int)) := rfl
  have d1 : (tokv id (.slice A n c) tag)[1]? = some (.slice A n c) := rfl
  have e0 : (tokv id (.slice B n d) tag)[0]? = some (.int .u32 (id : Int)) := rfl
  have e1 : (tokv id (.slice B n d) tag)[1]? = some (.slice B n d) := rfl
  have dt : ∀ s j u, (byv tag)[j]? = some u → (tokv id s tag)[2 + j]? = some u := by
    intro s j u h
    rw [tokv, show 2 + j = (j + 1) + 1 from by omega, List.getElem?_cons_succ, List.getElem?_cons_succ]
    exact h
  have dA := dt (.slice A n c)
  have dB := dt (.slice B n d)
  obtain ⟨L, hL⟩ : ∃ L, tokv id (.slice A n c) tag = L := ⟨_, rfl⟩
  obtain ⟨M, hM⟩ : ∃ M, tokv id (.slice B n d) tag = M := ⟨_, rfl⟩
  rw [hL] at d0 d1 dA ⊢
  rw [hM] at e0 e1 dB ⊢
  have hgl : (byv tag).length = 32 := by rw [byv_length, ht]
  obtain ⟨G, hG⟩ : ∃ G, byv tag = G := ⟨_, rfl⟩
  rw [hG] at dA dB hgl
  simp only [hG] at hdig
  have HI := Lib.hid (show (Try.prog.info? 25).map (·.size) = some G.length by rw [hgl]; exact Try.digest_info)
  have t0 : Blk ((w.alloc (.cells L.toArray 27)).alloc (.cells M.toArray 27)) w.heap.size 27 L.toArray := (Blk.new w _ _).alloc _
  have s0 : Blk ((w.alloc (.cells L.toArray 27)).alloc (.cells M.toArray 27)) (w.heap.size + 1) 27 M.toArray := by
    have := Blk.new (w.alloc (.cells L.toArray 27)) 27 M.toArray
    rwa [alloc_size] at this
  have R1 := Lib.hid (rangeAt_blk t0 2 G dA)
  have R2 := Lib.hid (rangeAt_blk s0 2 G dB)
  have c0 := (t0.cell 0).trans (show L.toArray[0]? = _ by simpa using d0)
  have c1 := (t0.cell 1).trans (show L.toArray[1]? = _ by simpa using d1)
  have c2 := (s0.cell 0).trans (show M.toArray[0]? = _ by simpa using e0)
  have c3 := (s0.cell 1).trans (show M.toArray[1]? = _ by simpa using e1)
  have ha1 := (ha.laid (.cells L.toArray 27)).laid (.cells M.toArray 27)
  have hb1 := (hb.laid (.cells L.toArray 27)).laid (.cells M.toArray 27)
  have B1 : Below w.heap.size w ((w.alloc (.cells L.toArray 27)).alloc (.cells M.toArray 27)) := below_new (below_new (Below.refl _ _) _) _
  clear hL hM hG d0 d1 e0 e1 dt dA dB hgl ha hb t0 s0
  go_enter Try.func30, Try.ntmps30
  go_wp2_with (first
    | (refine load_mid_want rfl 25 (.tmp 11) rfl w.heap.size 2 rfl G _ R1.out Try.underlying25 rfl HI.out ?_)
    | (refine load_mid_want rfl 25 (.tmp 13) rfl (w.heap.size + 1) 2 rfl G _ R2.out Try.underlying25 rfl HI.out ?_))
  refine (same_cavs A B n c d l _ ha1 hb1 hn).mono ?_
  rintro e w1 ⟨rfl, hb2⟩
  have HB := Lib.hid (B1.trans (hb2.mono B1.size))
  clear c0 c1 c2 c3 ha1 hb1 B1 R1 R2 hb2
  go_wp2
  go_ret
  exact ⟨rfl, HB.out⟩


set_option maxRecDepth 100000 in
set_option maxHeartbeats 4000000 in
theorem same_request (R : Req) (A B : Option Addr) (n c d : Nat) (Al Bl : Option Addr) (m cl dl : Nat) (w : World) (ht : R.tag.length = 32) (htb : ∀ b ∈ R.tag, b < 256) (ha : Reads w w.heap.size 2 A n (cavv R.cavs)) (hb : Reads w w.heap.size 2 B n (cavv R.cavs)) (hn : n ≤ 4611686018427387903)
    (hla : Reads w w.heap.size 1 Al m (byv R.leaf)) (hlb : Reads w w.heap.size 1 Bl m (byv R.leaf)) (hm : m ≤ 9223372036854775807) :
    Calls Try.prog 17 #[.agg (reqv R (.slice A n c) (.slice Al m cl)).toArray, .agg (reqv R (.slice B n d) (.slice Bl m dl)).toArray] w fun e w' => e = .returned (.bool true) ∧ Below w.heap.size w w' := by
  have hsame := fun w' h1 h2 => same_token R.tid A B n c d R.cavs R.tag w' ht htb h1 h2 hn
  have hL0 : (reqv R (.slice A n c) (.slice Al m cl))[0]? = some (.int .i64 R.op) := rfl
  have hM0 : (reqv R (.slice B n d) (.slice Bl m dl))[0]? = some (.int .i64 R.op) := rfl
  have hrL := reqv_rest R (.slice A n c) (.slice Al m cl) ht
  have hrM := reqv_rest R (.slice B n d) (.slice Bl m dl) ht
  have htL := reqv_tok R (.slice A n c) (.slice Al m cl)
  have htM := reqv_tok R (.slice B n d) (.slice Bl m dl)
  have hl1 := tokv_len R.tid (.slice A n c) R.tag ht
  have hl2 := tokv_len R.tid (.slice B n d) R.tag ht
  obtain ⟨T, hT⟩ : ∃ T, tokv R.tid (.slice A n c) R.tag = T := ⟨_, rfl⟩
  obtain ⟨U, hU⟩ : ∃ U, tokv R.tid (.slice B n d) R.tag = U := ⟨_, rfl⟩
  obtain ⟨L, hL⟩ : ∃ L, reqv R (.slice A n c) (.slice Al m cl) = L := ⟨_, rfl⟩
  obtain ⟨M, hM⟩ : ∃ M, reqv R (.slice B n d) (.slice Bl m dl) = M := ⟨_, rfl⟩
  rw [hL] at hL0 hrL htL ⊢
  rw [hM] at hM0 hrM htM ⊢
  rw [hT] at htL hl1
  rw [hU] at htM hl2
  simp only [hT, hU] at hsame
  have HS := Lib.hid hsame
  have HRL := Lib.hid hrL
  have HRM := Lib.hid hrM
  have HI1 := Lib.hid (show (Try.prog.info? 27).map (·.size) = some T.length by rw [hl1]; exact Try.tok_info)
  have HI2 := Lib.hid (show (Try.prog.info? 27).map (·.size) = some U.length by rw [hl2]; exact Try.tok_info)
  have hLc : ∀ {i : Nat} {v : Value}, L[i]? = some v → L.toArray[i]? = some v := fun h => by simpa using h
  have hMc : ∀ {i : Nat} {v : Value}, M[i]? = some v → M.toArray[i]? = some v := fun h => by simpa using h
  have t0 : Blk ((w.alloc (.cells L.toArray 31)).alloc (.cells M.toArray 31)) w.heap.size 31 L.toArray := (Blk.new w _ _).alloc _
  have s0 : Blk ((w.alloc (.cells L.toArray 31)).alloc (.cells M.toArray 31)) (w.heap.size + 1) 31 M.toArray := by
    have := Blk.new (w.alloc (.cells L.toArray 31)) 31 M.toArray
    rwa [alloc_size] at this
  have R1 := Lib.hid (rangeAt_blk t0 1 T htL)
  have R2 := Lib.hid (rangeAt_blk s0 1 U htM)
  have c0 := (t0.cell 0).trans (hLc hL0)
  have c1 := (s0.cell 0).trans (hMc hM0)
  have ha1 := (ha.laid (.cells L.toArray 31)).laid (.cells M.toArray 31)
  have hb1 := (hb.laid (.cells L.toArray 31)).laid (.cells M.toArray 31)
  have B1 : Below w.heap.size w ((w.alloc (.cells L.toArray 31)).alloc (.cells M.toArray 31)) := below_new (below_new (Below.refl _ _) _) _
  clear hL hM hT hU hsame hL0 hM0 hrL hrM htL htM hl1 hl2 ha hb
  go_enter Try.func17, Try.ntmps17
  go_upto_region 1 with (fail)
  refine wp_region_lit ?_
  iterate 7 (refine wpList_read rfl ⟨?_, ?_, ?_⟩; rotate_left; (focus (go_simp; (try go_bits); try rfl)); simp only [Act.put, List.setIfInBounds_toArray, List.set_cons_zero, List.set_cons_succ])
  refine load_mid_want rfl 27 (.tmp 11) rfl w.heap.size 1 rfl T _ R1.out Try.underlying27 rfl HI1.out ?_
  iterate 1 (refine wpList_read rfl ⟨?_, ?_, ?_⟩; rotate_left; (focus (go_simp; (try go_bits); try rfl)); simp only [Act.put, List.setIfInBounds_toArray, List.set_cons_zero, List.set_cons_succ])
  refine load_mid_want rfl 27 (.tmp 13) rfl (w.heap.size + 1) 1 rfl U _ R2.out Try.underlying27 rfl HI2.out ?_
  go_wp2_with fail
  refine (HS.out _ ha1 hb1).mono ?_
  rintro e w1 ⟨rfl, hb2⟩
  have t1 := t0.below hb2 t0.lt
  have s1 := s0.below hb2 s0.lt
  have B2 := B1.trans (hb2.mono B1.size)
  clear c0 c1 ha1 hb1 B1 R1 R2 hb2 t0 s0
  have a35 := (t1.cell 35).trans (hLc ((HRL.out 0).trans (show _ = some (.int .i64 R.tree) from rfl)))
  have b35 := (s1.cell 35).trans (hMc ((HRM.out 0).trans (show _ = some (.int .i64 R.tree) from rfl)))
  have a36 := (t1.cell 36).trans (hLc ((HRL.out 1).trans (show _ = some (.int .i64 R.tenant) from rfl)))
  have b36 := (s1.cell 36).trans (hMc ((HRM.out 1).trans (show _ = some (.int .i64 R.tenant) from rfl)))
  have a37 := (t1.cell 37).trans (hLc ((HRL.out 2).trans (show _ = some (.int .i64 R.role) from rfl)))
  have b37 := (s1.cell 37).trans (hMc ((HRM.out 2).trans (show _ = some (.int .i64 R.role) from rfl)))
  have a38 := (t1.cell 38).trans (hLc ((HRL.out 3).trans (show _ = some (.int .i64 R.state) from rfl)))
  have b38 := (s1.cell 38).trans (hMc ((HRM.out 3).trans (show _ = some (.int .i64 R.state) from rfl)))
  have a39 := (t1.cell 39).trans (hLc ((HRL.out 4).trans (show _ = some (.int .i64 R.weight) from rfl)))
  have b39 := (s1.cell 39).trans (hMc ((HRM.out 4).trans (show _ = some (.int .i64 R.weight) from rfl)))
  have a40 := (t1.cell 40).trans (hLc ((HRL.out 5).trans (show _ = some (.int .u32 R.id) from rfl)))
  have b40 := (s1.cell 40).trans (hMc ((HRM.out 5).trans (show _ = some (.int .u32 R.id) from rfl)))
  have a41 := (t1.cell 41).trans (hLc ((HRL.out 6).trans (show _ = some (.int .u64 R.lo) from rfl)))
  have b41 := (s1.cell 41).trans (hMc ((HRM.out 6).trans (show _ = some (.int .u64 R.lo) from rfl)))
  have a42 := (t1.cell 42).trans (hLc ((HRL.out 7).trans (show _ = some (.int .u64 R.hi) from rfl)))
  have b42 := (s1.cell 42).trans (hMc ((HRM.out 7).trans (show _ = some (.int .u64 R.hi) from rfl)))
  have a43 := (t1.cell 43).trans (hLc ((HRL.out 8).trans (show _ = some (.int .u32 R.rate) from rfl)))
  have b43 := (s1.cell 43).trans (hMc ((HRM.out 8).trans (show _ = some (.int .u32 R.rate) from rfl)))
  have a44 := (t1.cell 44).trans (hLc ((HRL.out 9).trans (show _ = some (.int .u32 R.burst) from rfl)))
  have b44 := (s1.cell 44).trans (hMc ((HRM.out 9).trans (show _ = some (.int .u32 R.burst) from rfl)))
  have a45 := (t1.cell 45).trans (hLc ((HRL.out 10).trans (show _ = some (.int .u32 R.store) from rfl)))
  have b45 := (s1.cell 45).trans (hMc ((HRM.out 10).trans (show _ = some (.int .u32 R.store) from rfl)))
  have a46 := (t1.cell 46).trans (hLc ((HRL.out 11).trans (show _ = some (.int .u64 R.expires) from rfl)))
  have b46 := (s1.cell 46).trans (hMc ((HRM.out 11).trans (show _ = some (.int .u64 R.expires) from rfl)))
  have a47 := (t1.cell 47).trans (hLc ((HRL.out 12).trans (show _ = some (.slice Al m cl) from rfl)))
  have b47 := (s1.cell 47).trans (hMc ((HRM.out 12).trans (show _ = some (.slice Bl m dl) from rfl)))
  clear hLc hMc t1 s1
  go_wp2_with fail
  refine (same_bytes Al Bl m cl dl R.leaf _ (hla.call B2) (hlb.call B2) hm).mono ?_
  rintro e w2 ⟨rfl, hb3⟩
  have HB := Lib.hid (B2.trans (hb3.mono B2.size))
  clear a35 b35 a36 b36 a37 b37 a38 b38 a39 b39 a40 b40 a41 b41 a42 b42 a43 b43 a44 b44 a45 b45 a46 b46 a47 b47 B2 hb3 hla hlb
  go_wp2
  go_ret
  exact ⟨rfl, HB.out⟩

end Go.Proofs.Ytbkdccamimakoaa
