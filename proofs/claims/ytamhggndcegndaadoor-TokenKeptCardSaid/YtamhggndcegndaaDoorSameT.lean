/-
  deponentkeep.SameToken: true of what is the same.
-/
import Derived.Test.YtamhggndcegndaaDoorCav
import Derived.Deep.RegionHeld3
import Derived.Deep.Cut
namespace Go.Proofs.YtamhggndcegndaaDoor
open Go.RowKit
set_option linter.unusedVariables false

set_option maxHeartbeats 1000000 in
theorem same_bytes (A B : Option Addr) (n c d : Nat) (bs : List Nat) (w : World) (ha : Reads w w.heap.size 1 A n (byv bs)) (hb : Reads w w.heap.size 1 B n (byv bs)) (hn : n ≤ 9223372036854775807) :
    Calls Tryd.prog 62 #[.slice A n c, .slice B n d] w fun e w' => e = .returned (.bool true) ∧ Below w.heap.size w w' := by
  have hl := reads_bytes_le ha
  have HL := Lib.hid hl
  clear hl
  go_enter Tryd.func62, Tryd.ntmps62
  go_wp2
  go_loopw [5] (fun i wr => ∃ k : Nat, k ≤ n ∧ i = .int .i64 k ∧ Below w.heap.size w wr) (fun i _ => n - (intOf i).toNat)
  case atStart => exact ⟨0, by omega, rfl, Below.refl _ _⟩
  case round =>
    obtain ⟨k, hk, rfl, hbr⟩ := hrel
    by_cases hlt : k < n
    · obtain ⟨b1, o1, rfl, -, hc1⟩ := (ha.below hbr).mid (by omega) (by omega)
      obtain ⟨b2, o2, rfl, -, hc2⟩ := (hb.below hbr).mid (by omega) (by omega)
      have hx : bs[k]? = some (bs[k]'(by rw [HL.out]; exact hlt)) := List.getElem?_eq_getElem _
      obtain ⟨x, hxe⟩ : ∃ x, bs[k]'(by rw [HL.out]; exact hlt) = x := ⟨_, rfl⟩
      rw [hxe] at hx
      have m1 := hc1 k (.int .u8 (x : Int)) (by simp [byv, hx])
      have m2 := hc2 k (.int .u8 (x : Int)) (by simp [byv, hx])
      clear hc1 hc2 hx hxe ha hb
      go_wp2_with fail
      obtain ⟨S, HS⟩ : ∃ S : World → Prop, Hid (∀ w', S w' = (w'.cell? ⟨b1, o1 + k, none⟩ = some (.int .u8 (x : Int)) ∧ w'.cell? ⟨b2, o2 + k, none⟩ = some (.int .u8 (x : Int)))) := ⟨_, fun _ => rfl⟩
      refine wp_region_seq S 9 [(0, false), (1, false), (2, false), (3, false), (4, false), (5, false), (6, false), (7, false), (8, false)] (by kernel_rfl) rfl (by kernel_rfl) (by kernel_rfl) (by kernel_rfl) (fun _ _ d _ _ h => by cases d <;> exact h) ((HS.out _).mpr ⟨m1, m2⟩) ?_
      repeat (refine wpSeq_read rfl rfl ⟨?_, fun w1 hS => ?_, ?_⟩; rotate_left; (focus (rw [HS.out] at hS; go_split_ands; go_simp; (try go_bits); try rfl)); simp only [Act.put, List.setIfInBounds_toArray, List.set_cons_zero, List.set_cons_succ])
      refine wpSeq_nil ?_
      have HB := Lib.hid hbr.drew
      clear hbr m1 m2 HS
      go_wp2
      go_roundw
      case rel => exact ⟨k + 1, by omega, by go_num, HB.out⟩
      case measure => simp [intOf]; omega
    · obtain rfl : k = n := by omega
      go_wp2
      go_ret
      exact ⟨rfl, hbr⟩

set_option maxHeartbeats 1000000 in
theorem same_cavs (A B : Option Addr) (n c d : Nat) (l : List (Int × Nat)) (w : World) (ha : Reads w w.heap.size 2 A n (cavv l)) (hb : Reads w w.heap.size 2 B n (cavv l)) (hn : n ≤ 4611686018427387903) :
    Calls Tryd.prog 47 #[.slice A n c, .slice B n d] w fun e w' => e = .returned (.bool true) ∧ Below w.heap.size w w' := by
  have hl : l.length = n := by have := ha.1; rw [cavv_length] at this; omega
  have HL := Lib.hid hl
  clear hl
  go_enter Tryd.func47, Tryd.ntmps47
  go_wp2
  go_loopw [5] (fun i wr => ∃ k : Nat, k ≤ n ∧ i = .int .i64 k ∧ Below w.heap.size w wr) (fun i _ => n - (intOf i).toNat)
  case atStart => exact ⟨0, by omega, rfl, Below.refl _ _⟩
  case round =>
    obtain ⟨k, hk, rfl, hbr⟩ := hrel
    by_cases hlt : k < n
    · obtain ⟨b1, o1, rfl, -, hc1⟩ := (ha.below hbr).mid (by omega) (by omega)
      obtain ⟨b2, o2, rfl, -, hc2⟩ := (hb.below hbr).mid (by omega) (by omega)
      have hx : l[k]? = some (l[k]'(by rw [HL.out]; exact hlt)) := List.getElem?_eq_getElem _
      obtain ⟨x, hxe⟩ : ∃ x, l[k]'(by rw [HL.out]; exact hlt) = x := ⟨_, rfl⟩
      rw [hxe] at hx
      obtain ⟨q0, q1⟩ := cavv_at l k x hx
      have m1 := hc1 _ _ q0
      have m2 := hc2 _ _ q0
      have p1 := hc1 _ _ q1
      have p2 := hc2 _ _ q1
      rw [← Nat.add_assoc] at p1 p2
      clear hc1 hc2 hx hxe ha hb q0 q1
      go_wp2_with fail
      obtain ⟨S, HS⟩ : ∃ S : World → Prop, Hid (∀ w', S w' = (w'.cell? ⟨b1, o1 + k * 2, none⟩ = some (.int .i64 x.1) ∧ w'.cell? ⟨b2, o2 + k * 2, none⟩ = some (.int .i64 x.1) ∧ w'.cell? ⟨b1, o1 + k * 2 + 1, none⟩ = some (.int .u32 (x.2 : Int)) ∧ w'.cell? ⟨b2, o2 + k * 2 + 1, none⟩ = some (.int .u32 (x.2 : Int)))) := ⟨_, fun _ => rfl⟩
      refine wp_region_seq S 9 [(0, false), (1, false), (2, false), (3, false), (4, false), (5, false), (6, false), (7, false), (8, false)] (by kernel_rfl) rfl (by kernel_rfl) (by kernel_rfl) (by kernel_rfl) (fun _ _ d _ _ h => by cases d <;> exact h) ((HS.out _).mpr ⟨m1, m2, p1, p2⟩) ?_
      repeat (refine wpSeq_read rfl rfl ⟨?_, fun w1 hS => ?_, ?_⟩; rotate_left; (focus (rw [HS.out] at hS; go_split_ands; go_simp; (try go_bits); try rfl)); simp only [Act.put, List.setIfInBounds_toArray, List.set_cons_zero, List.set_cons_succ])
      refine wpSeq_nil ?_
      have HB := Lib.hid hbr.drew
      clear hbr m1 m2 p1 p2 HS
      go_wp2
      go_roundw
      case rel => exact ⟨k + 1, by omega, by go_num, HB.out⟩
      case measure => simp [intOf]; omega
    · obtain rfl : k = n := by omega
      go_wp2
      go_ret
      exact ⟨rfl, hbr⟩

set_option maxRecDepth 100000 in
set_option maxHeartbeats 1000000 in
theorem same_token (id : Nat) (A B : Option Addr) (n c d : Nat) (l : List (Int × Nat)) (tag : List Nat) (w : World) (ht : tag.length = 32) (htb : ∀ b ∈ tag, b < 256) (ha : Reads w w.heap.size 2 A n (cavv l)) (hb : Reads w w.heap.size 2 B n (cavv l)) (hn : n ≤ 4611686018427387903) :
    Calls Tryd.prog 21 #[.agg (tokv id (.slice A n c) tag).toArray, .agg (tokv id (.slice B n d) tag).toArray] w fun e w' => e = .returned (.bool true) ∧ Below w.heap.size w w' := by
  have hdig := fun w => run_eql_digest w tag tag ht ht htb htb
  simp only [beq_self_eq_true] at hdig
  have d0 : (tokv id (.slice A n c) tag)[0]? = some (.int .u32 (id : Int)) := rfl
  have d1 : (tokv id (.slice A n c) tag)[1]? = some (.slice A n c) := rfl
  have e0 : (tokv id (.slice B n d) tag)[0]? = some (.int .u32 (id : Int)) := rfl
  have e1 : (tokv id (.slice B n d) tag)[1]? = some (.slice B n d) := rfl
  have dt : ∀ s j u, (byv tag)[j]? = some u → (tokv id s tag)[2 + j]? = some u := by
    intro s j u h
    rw [tokv, show 2 + j = (j + 1) + 1 from by omega, List.getElem?_cons_succ, List.getElem?_cons_succ]
    exact h
  have dA := dt (.slice A n c)
  have dB := dt (.slice B n d)
  obtain ⟨L, hL⟩ : ∃ L, tokv id (.slice A n c) tag = L := ⟨_, rfl⟩
  obtain ⟨M, hM⟩ : ∃ M, tokv id (.slice B n d) tag = M := ⟨_, rfl⟩
  rw [hL] at d0 d1 dA ⊢
  rw [hM] at e0 e1 dB ⊢
  have hgl : (byv tag).length = 32 := by rw [byv_length, ht]
  obtain ⟨G, hG⟩ : ∃ G, byv tag = G := ⟨_, rfl⟩
  rw [hG] at dA dB hgl
  simp only [hG] at hdig
  have HI := Lib.hid (show (Tryd.prog.info? 28).map (·.size) = some G.length by rw [hgl]; exact Tryd.digest_info)
  have t0 : Blk ((w.alloc (.cells L.toArray 30)).alloc (.cells M.toArray 30)) w.heap.size 30 L.toArray := (Blk.new w _ _).alloc _
  have s0 : Blk ((w.alloc (.cells L.toArray 30)).alloc (.cells M.toArray 30)) (w.heap.size + 1) 30 M.toArray := by
    have := Blk.new (w.alloc (.cells L.toArray 30)) 30 M.toArray
    rwa [alloc_size] at this
  have R1 := Lib.hid (rangeAt_blk t0 2 G dA)
  have R2 := Lib.hid (rangeAt_blk s0 2 G dB)
  have c0 := (t0.cell 0).trans (show L.toArray[0]? = _ by simpa using d0)
  have c1 := (t0.cell 1).trans (show L.toArray[1]? = _ by simpa using d1)
  have c2 := (s0.cell 0).trans (show M.toArray[0]? = _ by simpa using e0)
  have c3 := (s0.cell 1).trans (show M.toArray[1]? = _ by simpa using e1)
  have ha1 := (ha.laid (.cells L.toArray 30)).laid (.cells M.toArray 30)
  have hb1 := (hb.laid (.cells L.toArray 30)).laid (.cells M.toArray 30)
  have B1 : Below w.heap.size w ((w.alloc (.cells L.toArray 30)).alloc (.cells M.toArray 30)) := below_new (below_new (Below.refl _ _) _) _
  clear hL hM hG d0 d1 e0 e1 dt dA dB hgl ha hb t0 s0
  go_enter Tryd.func21, Tryd.ntmps21
  go_wp2_with (first
    | (refine load_mid_want rfl 28 (.tmp 11) rfl w.heap.size 2 rfl G _ R1.out Tryd.underlying28 rfl HI.out ?_)
    | (refine load_mid_want rfl 28 (.tmp 13) rfl (w.heap.size + 1) 2 rfl G _ R2.out Tryd.underlying28 rfl HI.out ?_))
  refine (same_cavs A B n c d l _ ha1 hb1 hn).mono ?_
  rintro e w1 ⟨rfl, hb2⟩
  have HB := Lib.hid (B1.trans (hb2.mono B1.size))
  clear c0 c1 c2 c3 ha1 hb1 B1 R1 R2 hb2
  go_wp2
  go_ret
  exact ⟨rfl, HB.out⟩



end Go.Proofs.YtamhggndcegndaaDoor
