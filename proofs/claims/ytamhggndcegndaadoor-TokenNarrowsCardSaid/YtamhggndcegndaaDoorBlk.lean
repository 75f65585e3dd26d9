/-
  (*deponentref1.Table).block: one block of 64 bytes is mixed into the state.
-/
import Derived.Test.YtamhggndcegndaaDoorBlkT
namespace Go.Proofs.YtamhggndcegndaaDoor
open Go.RowKit
set_option linter.unusedVariables false
set_option maxRecDepth 100000

set_option maxHeartbeats 8000000 in
theorem ref1_block (g n cc : Nat) (A : Option Addr) (bs : List Nat) (s0 : St) (w : World) (hS2 : s0.ok) (hb : bs.length = n) (hn : 64 ≤ n) (hb2 : ∀ b ∈ bs, b < 256)
    (hT : RTab w g) (hr : Reads w w.heap.size 1 A n (byv bs)) :
    Calls Tryd.prog 83 #[.pointer (some ⟨g, 0, none⟩), .agg #[.int .u32 s0.a, .int .u32 s0.b, .int .u32 s0.c, .int .u32 s0.d, .int .u32 s0.e, .int .u32 s0.f, .int .u32 s0.g, .int .u32 s0.h], .slice A n cc] w fun e w' => e = .returned (.agg (mixed bs s0).vals) ∧ Below w.heap.size w w' := by
  have hb2' : ∀ b, b ∈ bs → b < 256 := hb2
  obtain ⟨gb, ob, rfl, hadB, hr⟩ := hr.mid (by omega) (by omega)
  obtain ⟨W0, hW0⟩ : ∃ x, x = ((w.alloc (.cells #[.int .u32 s0.a, .int .u32 s0.b, .int .u32 s0.c, .int .u32 s0.d, .int .u32 s0.e, .int .u32 s0.f, .int .u32 s0.g, .int .u32 s0.h] 76)).alloc (.cells #[.int .u32 0, .int .u32 0, .int .u32 0, .int .u32 0, .int .u32 0, .int .u32 0, .int .u32 0, .int .u32 0] 76)).alloc (.cells #[.int .u32 0, .int .u32 0, .int .u32 0, .int .u32 0, .int .u32 0, .int .u32 0, .int .u32 0, .int .u32 0, .int .u32 0, .int .u32 0, .int .u32 0, .int .u32 0, .int .u32 0, .int .u32 0, .int .u32 0, .int .u32 0, .int .u32 0, .int .u32 0, .int .u32 0, .int .u32 0, .int .u32 0, .int .u32 0, .int .u32 0, .int .u32 0, .int .u32 0, .int .u32 0, .int .u32 0, .int .u32 0, .int .u32 0, .int .u32 0, .int .u32 0, .int .u32 0, .int .u32 0, .int .u32 0, .int .u32 0, .int .u32 0, .int .u32 0, .int .u32 0, .int .u32 0, .int .u32 0, .int .u32 0, .int .u32 0, .int .u32 0, .int .u32 0, .int .u32 0, .int .u32 0, .int .u32 0, .int .u32 0, .int .u32 0, .int .u32 0, .int .u32 0, .int .u32 0, .int .u32 0, .int .u32 0, .int .u32 0, .int .u32 0, .int .u32 0, .int .u32 0, .int .u32 0, .int .u32 0, .int .u32 0, .int .u32 0, .int .u32 0, .int .u32 0] 75) := ⟨_, rfl⟩
  obtain ⟨gh, hgh⟩ : ∃ x, w.heap.size = x := ⟨_, rfl⟩
  obtain ⟨gr, hgr⟩ : ∃ x, w.heap.size + 1 = x := ⟨_, rfl⟩
  obtain ⟨gw, hgw⟩ : ∃ x, w.heap.size + 1 + 1 = x := ⟨_, rfl⟩
  have bh0 : Blk W0 gh 76 #[.int .u32 s0.a, .int .u32 s0.b, .int .u32 s0.c, .int .u32 s0.d, .int .u32 s0.e, .int .u32 s0.f, .int .u32 s0.g, .int .u32 s0.h] := by rw [hW0, ← hgh]; exact ((Blk.new w _ _).alloc _).alloc _
  have br0 : Blk W0 gr 76 #[.int .u32 0, .int .u32 0, .int .u32 0, .int .u32 0, .int .u32 0, .int .u32 0, .int .u32 0, .int .u32 0] := by
    have h := Blk.new (w.alloc (.cells #[.int .u32 s0.a, .int .u32 s0.b, .int .u32 s0.c, .int .u32 s0.d, .int .u32 s0.e, .int .u32 s0.f, .int .u32 s0.g, .int .u32 s0.h] 76)) 76 #[.int .u32 0, .int .u32 0, .int .u32 0, .int .u32 0, .int .u32 0, .int .u32 0, .int .u32 0, .int .u32 0]
    rw [alloc_size] at h
    rw [hW0, ← hgr]
    exact h.alloc _
  have bw0 : Blk W0 gw 75 (wordv (padded (sched bs 0))).toArray := by
    have h := Blk.new ((w.alloc (.cells #[.int .u32 s0.a, .int .u32 s0.b, .int .u32 s0.c, .int .u32 s0.d, .int .u32 s0.e, .int .u32 s0.f, .int .u32 s0.g, .int .u32 s0.h] 76)).alloc (.cells #[.int .u32 0, .int .u32 0, .int .u32 0, .int .u32 0, .int .u32 0, .int .u32 0, .int .u32 0, .int .u32 0] 76)) 75 (wordv (padded (sched bs 0))).toArray
    rw [alloc_size, alloc_size] at h
    rw [hW0, ← hgw]
    exact h
  have B0 : Below w.heap.size w W0 := by rw [hW0]; exact below_new (below_new (below_new (Below.refl _ _) _) _) _
  have T0 : RTab W0 g := Blk.below hT B0 (Blk.lt hT)
  have glt : g < gh := by rw [← hgh]; exact Blk.lt hT
  have hadB' : gb < gh := by rw [← hgh]; exact hadB
  have hrw : gr < gw := by omega
  have hhr : gh < gr := by omega
  have hgw0 : gw < W0.heap.size := bw0.lt
  have HGH := Lib.hid hgh
  have HGR := Lib.hid hgr
  have HGW := Lib.hid hgw
  have HB0 := Lib.hid B0
  have HBW := Lib.hid bw0
  have HBH := Lib.hid bh0
  have HBR := Lib.hid br0
  have HT0 := Lib.hid T0
  clear hT hgh hgr hgw
  go_enter Tryd.func83, Tryd.ntmps83
  go_upto_region 3 with (fail)
  rw [← hW0, show w.heap.size + 1 + 1 = gw from HGW.out, show w.heap.size + 1 = gr from HGR.out, show w.heap.size = gh from HGH.out]
  clear hW0 B0 bw0 bh0 br0 T0
  go_loopw [8] (fun i wr => ∃ k : Nat, k ≤ 16 ∧ i = .int .i64 k ∧ Blk wr gw 75 (wordv (padded (sched bs k))).toArray ∧ Below gw W0 wr) (fun i _ => 16 - (intOf i).toNat)
  case atStart => exact ⟨0, by omega, rfl, HBW.out, Below.refl _ _⟩
  case round =>
    obtain ⟨k, hk, rfl, hw, hbl⟩ := hrel
    have hbl0 : Below w.heap.size w wr := HB0.out.trans (hbl.mono (by rw [HGH.out]; omega))
    by_cases h16 : k < 16
    · have hwc := hw.cell k
      rw [padded_at (sched_length bs k) (by omega)] at hwc
      have hwf := hw.frozen k
      have hk64 : k < 64 := by omega
      have h16' : k < 16 := h16
      obtain ⟨j, hj⟩ : ∃ j, 4 * k = j := ⟨_, rfl⟩
      obtain ⟨b0, q0, e0⟩ := byte_here hr hb hbl0 (Nat.le_refl _) hadB (j := j) (by omega)
      obtain ⟨b1, q1, e1⟩ := byte_here hr hb hbl0 (Nat.le_refl _) hadB (j := j + 1) (by omega)
      obtain ⟨b2, q2, e2⟩ := byte_here hr hb hbl0 (Nat.le_refl _) hadB (j := j + 2) (by omega)
      obtain ⟨b3, q3, e3⟩ := byte_here hr hb hbl0 (Nat.le_refl _) hadB (j := j + 3) (by omega)
      have Q0 := Lib.hid q0; have Q1 := Lib.hid q1; have Q2 := Lib.hid q2; have Q3 := Lib.hid q3
      clear q0 q1 q2 q3
      have j60 : j ≤ 60 := by omega
      have hm : IntKind.i64.wrap (4 * (k : Int)) = (j : Int) := by rw [show (4 * (k : Int)) = (j : Int) by omega]; exact IntWalk.i64_in _ (by omega)
      have w1 : IntKind.i64.wrap ((j : Int) + 1) = (j : Int) + 1 := IntWalk.i64_in _ (by omega)
      have w2 : IntKind.i64.wrap ((j : Int) + 2) = (j : Int) + 2 := IntWalk.i64_in _ (by omega)
      have w3 : IntKind.i64.wrap ((j : Int) + 3) = (j : Int) + 3 := IntWalk.i64_in _ (by omega)
      have p0 : (j : Int) < n := by omega
      have p1 : (j : Int) + 1 < n := by omega
      have p2 : (j : Int) + 2 < n := by omega
      have p3 : (j : Int) + 3 < n := by omega
      have t1 : (0 : Int) ≤ (j : Int) + 1 := by omega
      have t2 : (0 : Int) ≤ (j : Int) + 2 := by omega
      have t3 : (0 : Int) ≤ (j : Int) + 3 := by omega
      have v0 := hb2' b0 (List.mem_of_getElem? Q0.out)
      have v1 := hb2' b1 (List.mem_of_getElem? Q1.out)
      have v2 := hb2' b2 (List.mem_of_getElem? Q2.out)
      have v3 := hb2' b3 (List.mem_of_getElem? Q3.out)
      have x0 : IntKind.u32.wrap (b0 : Int) = b0 := IntWalk.u32_in _ (by omega)
      have x1 : IntKind.u32.wrap (b1 : Int) = b1 := IntWalk.u32_in _ (by omega)
      have x2 : IntKind.u32.wrap (b2 : Int) = b2 := IntWalk.u32_in _ (by omega)
      have x3 : IntKind.u32.wrap (b3 : Int) = b3 := IntWalk.u32_in _ (by omega)
      have y0 : IntKind.u32.wrap ((b0 : Int) * 16777216) = b0 * 16777216 := IntWalk.u32_in _ (by omega)
      have y1 : IntKind.u32.wrap ((b1 : Int) * 65536) = b1 * 65536 := IntWalk.u32_in _ (by omega)
      have y2 : IntKind.u32.wrap ((b2 : Int) * 256) = b2 * 256 := IntWalk.u32_in _ (by omega)
      have n2 : ((j : Int) + 2).toNat = j + 2 := by omega
      have n3 : ((j : Int) + 3).toNat = j + 3 := by omega
      obtain ⟨a1, ha1, o1⟩ : ∃ a1 : Nat, a1 = (b0 * 16777216 ||| b1 * 65536) ∧ bits .or .u32 ((b0 : Int) * 16777216) ((b1 : Int) * 65536) = a1 := ⟨_, rfl, u32_or_nat (b0 * 16777216) (b1 * 65536) (by omega) (by omega)⟩
      have l1 : a1 < 4294967296 := by rw [ha1]; exact Nat.or_lt_two_pow (n := 32) (by omega) (by omega)
      obtain ⟨a2, ha2, o2⟩ : ∃ a2 : Nat, a2 = (a1 ||| b2 * 256) ∧ bits .or .u32 (a1 : Int) ((b2 : Int) * 256) = a2 := ⟨_, rfl, u32_or_nat a1 (b2 * 256) (by omega) (by omega)⟩
      have l2 : a2 < 4294967296 := by rw [ha2]; exact Nat.or_lt_two_pow (n := 32) (by omega) (by omega)
      obtain ⟨a3, ha3, o3⟩ : ∃ a3 : Nat, a3 = (a2 ||| b3) ∧ bits .or .u32 (a2 : Int) (b3 : Int) = a3 := ⟨_, rfl, u32_or_nat a2 b3 (by omega) (by omega)⟩
      have l3 : a3 = be32 bs (4 * k) := by
        have HJ' : 4 * k = j := hj
        unfold be32
        rw [HJ', ha3, ha2, ha1, getD_at Q0.out, getD_at Q1.out, getD_at Q2.out, getD_at Q3.out]
      clear ha1 ha2 ha3
      have L3 := Lib.hid l3
      clear l3
      have k64 : (k : Int) < 64 := by omega
      have HJ := Lib.hid hj
      have k16 : (k : Int) < 16 := by omega
      clear hj hr
      go_wp2_with fail
      go_still_tail 35, (by kernel_rfl)
      change wpList _ _ _ _ _ wr.drew
      go_wp2
      go_roundw
      case rel =>
        refine ⟨k + 1, by omega, by go_num, ?_, ?_⟩
        · rw [sched, ← padded_set (sched_length bs k) hk64, wnext, if_pos h16', ← L3.out]
          exact hw.drew.set_ k _
        · exact hbl.drew.setCell (Nat.le_refl _) _
      case measure => simp [intOf]; omega
    · have k16 : ¬ (k : Int) < 16 := by omega
      have hk' : k = 16 := by omega
      rw [hk'] at hw
      obtain ⟨W1, rfl⟩ : ∃ x, x = wr := ⟨_, rfl⟩
      have HW1 := Lib.hid hw
      have HB1 := Lib.hid hbl
      have l1 : W0.heap.size ≤ W1.heap.size := hbl.size
      clear hw hbl hbl0 hr hk hk' h16
      go_wp2_with fail
      go_loopw [9, 10, 11] (fun i _ _ wr => ∃ k : Nat, 16 ≤ k ∧ k ≤ 64 ∧ i = .int .i64 k ∧ Blk wr gw 75 (wordv (padded (sched bs k))).toArray ∧ Below gw W0 wr) (fun i _ _ _ => 64 - (intOf i).toNat)
      case atStart => exact ⟨16, by omega, by omega, rfl, HW1.out, HB1.out⟩
      case round =>
        obtain ⟨k, h16, hk, rfl, hw, hbl⟩ := hrel
        by_cases hk64 : k < 64
        · have hl := sched_length bs k
          have hu := sched_u32 bs hb2 k
          obtain ⟨m2, h2⟩ : ∃ m, k - 2 = m := ⟨_, rfl⟩
          obtain ⟨m7, h7⟩ : ∃ m, k - 7 = m := ⟨_, rfl⟩
          obtain ⟨m15, h15⟩ : ∃ m, k - 15 = m := ⟨_, rfl⟩
          obtain ⟨m16, h16'⟩ : ∃ m, k - 16 = m := ⟨_, rfl⟩
          have c2 := hw.cell m2
          have c7 := hw.cell m7
          have c15 := hw.cell m15
          have c16 := hw.cell m16
          rw [padded_in hl (by omega)] at c2 c7 c15 c16
          have u2 := hu.getD m2
          have u7 := hu.getD m7
          have u15 := hu.getD m15
          have u16 := hu.getD m16
          obtain ⟨x2, X2⟩ : ∃ x, (sched bs k).getD m2 0 = x := ⟨_, rfl⟩
          obtain ⟨x7, X7⟩ : ∃ x, (sched bs k).getD m7 0 = x := ⟨_, rfl⟩
          obtain ⟨x15, X15⟩ : ∃ x, (sched bs k).getD m15 0 = x := ⟨_, rfl⟩
          obtain ⟨x16, X16⟩ : ∃ x, (sched bs k).getD m16 0 = x := ⟨_, rfl⟩
          have hwc := hw.cell k
          rw [padded_at hl (by omega)] at hwc
          have hwf := hw.frozen k
          have i2 : IntKind.i64.wrap ((k : Int) - 2) = (m2 : Int) := by rw [show ((k : Int) - 2) = (m2 : Int) by omega]; exact IntWalk.i64_in _ (by omega)
          have i7 : IntKind.i64.wrap ((k : Int) - 7) = (m7 : Int) := by rw [show ((k : Int) - 7) = (m7 : Int) by omega]; exact IntWalk.i64_in _ (by omega)
          have i15 : IntKind.i64.wrap ((k : Int) - 15) = (m15 : Int) := by rw [show ((k : Int) - 15) = (m15 : Int) by omega]; exact IntWalk.i64_in _ (by omega)
          have i16 : IntKind.i64.wrap ((k : Int) - 16) = (m16 : Int) := by rw [show ((k : Int) - 16) = (m16 : Int) by omega]; exact IntWalk.i64_in _ (by omega)
          have q2 : (m2 : Int) < 64 := by omega
          have q7 : (m7 : Int) < 64 := by omega
          have q15 : (m15 : Int) < 64 := by omega
          have q16 : (m16 : Int) < 64 := by omega
          have qk : (k : Int) < 64 := by omega
          have z7 : m7 ≠ k := by omega
          have z16 : m16 ≠ k := by omega
          have hwx : wnext bs (sched bs k) k = (sig1 x2 + x7 + sig0 x15 + x16) % 4294967296 := by
            unfold wnext; rw [if_neg (by omega), h2, h7, h15, h16', X2, X7, X15, X16]
          have HWX := Lib.hid hwx
          rw [X2] at c2 u2
          rw [X7] at c7 u7
          rw [X15] at c15 u15
          rw [X16] at c16 u16
          clear hwx X2 X7 X15 X16 h2 h7 h15 h16' hl hu
          obtain ⟨r17, R17⟩ : ∃ y, rotr x2 17 = y := ⟨_, rfl⟩
          obtain ⟨r19, R19⟩ : ∃ y, rotr x2 19 = y := ⟨_, rfl⟩
          obtain ⟨r7, R7⟩ : ∃ y, rotr x15 7 = y := ⟨_, rfl⟩
          obtain ⟨r18, R18⟩ : ∃ y, rotr x15 18 = y := ⟨_, rfl⟩
          have b17 : r17 < 4294967296 := R17 ▸ rotr_lt _ _ u2
          have b19 : r19 < 4294967296 := R19 ▸ rotr_lt _ _ u2
          have b7 : r7 < 4294967296 := R7 ▸ rotr_lt _ _ u15
          have b18 : r18 < 4294967296 := R18 ▸ rotr_lt _ _ u15
          obtain ⟨p1, hp1, op1⟩ : ∃ p : Nat, p = (r17 ^^^ r19) ∧ bits .xor .u32 (r17 : Int) (r19 : Int) = p := ⟨_, rfl, u32_xor_nat _ _ b17 b19⟩
          have lp1 : p1 < 4294967296 := by rw [hp1]; exact Nat.xor_lt_two_pow (n := 32) (by omega) (by omega)
          obtain ⟨p2, hp2, op2⟩ : ∃ p : Nat, p = (p1 ^^^ x2 / 2 ^ 10) ∧ bits .xor .u32 (p1 : Int) ((x2 : Int) / 1024) = p := ⟨_, rfl, by
            rw [show ((x2 : Int) / 1024) = ((x2 / 2 ^ 10 : Nat) : Int) by push_cast; rfl]
            exact u32_xor_nat _ _ lp1 (Nat.lt_of_le_of_lt (Nat.div_le_self _ _) u2)⟩
          obtain ⟨p3, hp3, op3⟩ : ∃ p : Nat, p = (r7 ^^^ r18) ∧ bits .xor .u32 (r7 : Int) (r18 : Int) = p := ⟨_, rfl, u32_xor_nat _ _ b7 b18⟩
          have lp3 : p3 < 4294967296 := by rw [hp3]; exact Nat.xor_lt_two_pow (n := 32) (by omega) (by omega)
          obtain ⟨p4, hp4, op4⟩ : ∃ p : Nat, p = (p3 ^^^ x15 / 2 ^ 3) ∧ bits .xor .u32 (p3 : Int) ((x15 : Int) / 8) = p := ⟨_, rfl, by
            rw [show ((x15 : Int) / 8) = ((x15 / 2 ^ 3 : Nat) : Int) by push_cast; rfl]
            exact u32_xor_nat _ _ lp3 (Nat.lt_of_le_of_lt (Nat.div_le_self _ _) u15)⟩
          have HY2 : Hid (sig1 x2 = p2) := Lib.hid (by unfold sig1; rw [R17, R19, hp2, hp1])
          have HY15 : Hid (sig0 x15 = p4) := Lib.hid (by unfold sig0; rw [R7, R18, hp4, hp3])
          have K1 : ∀ w, Calls Tryd.prog 88 #[.int .u32 x2, .int .u64 17] w fun e w' => e = .returned (.int .u32 (r17 : Nat)) ∧ w = w' := fun w => R17 ▸ ref1_turn x2 17 w u2 (by omega) (by omega)
          have K2 : ∀ w, Calls Tryd.prog 88 #[.int .u32 x2, .int .u64 19] w fun e w' => e = .returned (.int .u32 (r19 : Nat)) ∧ w = w' := fun w => R19 ▸ ref1_turn x2 19 w u2 (by omega) (by omega)
          have K3 : ∀ w, Calls Tryd.prog 88 #[.int .u32 x15, .int .u64 7] w fun e w' => e = .returned (.int .u32 (r7 : Nat)) ∧ w = w' := fun w => R7 ▸ ref1_turn x15 7 w u15 (by omega) (by omega)
          have K4 : ∀ w, Calls Tryd.prog 88 #[.int .u32 x15, .int .u64 18] w fun e w' => e = .returned (.int .u32 (r18 : Nat)) ∧ w = w' := fun w => R18 ▸ ref1_turn x15 18 w u15 (by omega) (by omega)
          have HRW := Lib.hid hw
          have HRB := Lib.hid hbl
          clear R17 R19 R7 R18 hp1 hp2 hp3 hp4 hw hbl
          go_upto_region 11 with (fail)
          go_region_held3 (fun w' => w'.cell? ⟨gw, m7, none⟩ = some (.int .u32 x7) ∧ w'.cell? ⟨gw, m16, none⟩ = some (.int .u32 x16))
            (first | exact ⟨c7, c16⟩ | exact ⟨cell_off z7 c7, cell_off z16 c16⟩)
            (first | (go_at_call 88; (with_reducible refine (K1 _).mono ?_); rintro e w2 ⟨rfl, rfl⟩; go_split_ands) | (go_at_call 88; (with_reducible refine (K2 _).mono ?_); rintro e w2 ⟨rfl, rfl⟩; go_split_ands) | (go_at_call 88; (with_reducible refine (K3 _).mono ?_); rintro e w2 ⟨rfl, rfl⟩; go_split_ands) | (go_at_call 88; (with_reducible refine (K4 _).mono ?_); rintro e w2 ⟨rfl, rfl⟩; go_split_ands))
          all_goals
            go_wp2
            go_roundw
            case rel =>
              refine ⟨k + 1, by omega, by omega, by go_num, ?_, ?_⟩
              · rw [sched, ← padded_set (sched_length bs k) hk64, HWX.out, HY2.out, HY15.out, ← add4]
                exact HRW.out.set_ k _
              · first | exact (below_drewN HRB.out _).setCell (Nat.le_refl _) _ | exact HRB.out.drew.setCell (Nat.le_refl _) _ | exact Below.setCell (p := ⟨gw, k, none⟩) HRB.out (Nat.le_refl _) _
            case measure => simp [intOf]; omega
        · have hk' : k = 64 := by omega
          have hk2 : ¬ (k : Int) < 64 := by omega
          obtain ⟨wo, rfl⟩ : ∃ x, x = wr := ⟨_, rfl⟩
          rw [hk', padded_full (sched_length bs 64)] at hw
          obtain ⟨W, hW⟩ : ∃ W, sched bs 64 = W := ⟨_, rfl⟩
          have hWl := sched_length bs 64
          have hWu := sched_u32 bs hb2 64
          rw [hW] at hw hWl hWu
          have HW := Lib.hid hW
          have HWl := Lib.hid hWl
          have HWu := Lib.hid hWu
          have HS2 := Lib.hid hS2
          have hg2 : Blk wo gh 76 #[.int .u32 s0.a, .int .u32 s0.b, .int .u32 s0.c, .int .u32 s0.d, .int .u32 s0.e, .int .u32 s0.f, .int .u32 s0.g, .int .u32 s0.h] := HBH.out.below hbl (by omega)
          have hr2 : Blk wo gr 76 #[.int .u32 0, .int .u32 0, .int .u32 0, .int .u32 0, .int .u32 0, .int .u32 0, .int .u32 0, .int .u32 0] := HBR.out.below hbl (by omega)
          have hT2 : RTab wo g := Blk.below HT0.out hbl (by omega)
          have hbo : Below w.heap.size w wo := HB0.out.trans (hbl.mono (by rw [HGH.out]; omega))
          have HR2 := Lib.hid hr2
          have HT2' := Lib.hid hT2
          have HBO := Lib.hid hbo
          have hgwo : gw < wo.heap.size := hw.lt
          have c0 := hg2.cell 0; have c1 := hg2.cell 1; have c2 := hg2.cell 2; have c3 := hg2.cell 3; have c4 := hg2.cell 4; have c5 := hg2.cell 5; have c6 := hg2.cell 6; have c7 := hg2.cell 7
          simp at c0 c1 c2 c3 c4 c5 c6 c7
          have HG2 := Lib.hid hg2
          have HWo := Lib.hid hw
          clear hW hWl hWu hS2 hk h16 hk64 hk' hb hb2 hb2' hw hg2 hr2 hT2 hbo hbl
          go_wp2_with fail

          go_loopw [13, 14, 15, 16, 17] (fun i _ _ _ _ wr => ∃ (k : Nat) (s : St), k ≤ 64 ∧ i = .int .i64 k ∧ s = rounds W s0 k ∧ s.ok ∧ Blk wr wo.heap.size 76 #[.int .u32 s.a, .int .u32 s.b, .int .u32 s.c, .int .u32 s.d, .int .u32 s.e, .int .u32 s.f, .int .u32 s.g, .int .u32 s.h] ∧ Below wo.heap.size wo wr) (fun i _ _ _ _ _ => 64 - (intOf i).toNat)
          case atStart => exact ⟨0, s0, by omega, rfl, rfl, HS2.out, Blk.new .., (Below.refl _ wo).alloc (Nat.le_refl _) _⟩
          case round =>
            clear c0 c1 c2 c3 c4 c5 c6 c7
            obtain ⟨k, s, hk, rfl, hs, hok, hst, hb3⟩ := hrel
            have Hs := Lib.hid hs
            have Hok := Lib.hid hok
            clear hs
            obtain ⟨a, b, c, d, e, f, g', h⟩ := s
            obtain ⟨oa, ob', oc, od, oe, of, og, oh⟩ := hok
            dsimp only at oa ob' oc od oe of og oh hst
            by_cases hk64 : k < 64
            · have c0 := hst.cell 0; have c1 := hst.cell 1; have c2 := hst.cell 2; have c3 := hst.cell 3; have c4 := hst.cell 4; have c5 := hst.cell 5; have c6 := hst.cell 6; have c7 := hst.cell 7
              simp at c0 c1 c2 c3 c4 c5 c6 c7
              have qk : (k : Int) < 64 := by omega
              have ckk : wr.cell? ⟨g, k, none⟩ = some (.int .u32 (Kt.getD k 0 : Nat)) := tab_words (Blk.below HT2'.out hb3 (by omega)) hk64
              have cww : wr.cell? ⟨gw, k, none⟩ = some (.int .u32 (W.getD k 0 : Nat)) := by
                have hx := padded_in HWl.out hk64
                rw [padded_full HWl.out] at hx
                rw [(HWo.out.below hb3 hgwo).cell]
                exact hx
              obtain ⟨kk, hkk⟩ : ∃ kk, Kt.getD k 0 = kk := ⟨_, rfl⟩
              obtain ⟨ww, hww⟩ : ∃ ww, W.getD k 0 = ww := ⟨_, rfl⟩
              rw [hkk] at ckk
              rw [hww] at cww
              have okk : kk < 4294967296 := hkk ▸ Kt_lt k
              have oww : ww < 4294967296 := hww ▸ HWu.out.getD k
              have HKK := Lib.hid hkk
              have HWW := Lib.hid hww
              clear hkk hww
              have Hst := Lib.hid hst
              have Hb3 := Lib.hid hb3
              clear hst hb3
              obtain ⟨n1, hn1, on1⟩ : ∃ p : Nat, (4294967295 ^^^ e) = p ∧ bits .xor .u32 (if IntKind.u32.signed = true then -1 else IntKind.u32.max) (e : Int) = p := ⟨_, rfl, u32_xor_nat 4294967295 e (by omega) oe⟩
              have ln1 : n1 < 4294967296 := by rw [← hn1]; exact Nat.xor_lt_two_pow (n := 32) (by omega) (by omega)
              obtain ⟨p1, hp1, op1⟩ : ∃ p : Nat, p = (e &&& f) ∧ bits .and .u32 (e : Int) (f : Int) = p := ⟨_, rfl, u32_and_nat e f oe of⟩
              have lp1 : p1 < 4294967296 := by rw [hp1]; exact Nat.and_lt_two_pow (n := 32) _ (by omega)
              obtain ⟨p2, hp2, op2⟩ : ∃ p : Nat, p = (n1 &&& g') ∧ bits .and .u32 (n1 : Int) (g' : Int) = p := ⟨_, rfl, u32_and_nat n1 g' ln1 og⟩
              have lp2 : p2 < 4294967296 := by rw [hp2]; exact Nat.and_lt_two_pow (n := 32) _ (by omega)
              obtain ⟨p3, hp3, op3⟩ : ∃ p : Nat, p = (p1 ^^^ p2) ∧ bits .xor .u32 (p1 : Int) (p2 : Int) = p := ⟨_, rfl, u32_xor_nat p1 p2 lp1 lp2⟩
              obtain ⟨q1, hq1, oq1⟩ : ∃ p : Nat, p = (a &&& b) ∧ bits .and .u32 (a : Int) (b : Int) = p := ⟨_, rfl, u32_and_nat a b oa ob'⟩
              have lq1 : q1 < 4294967296 := by rw [hq1]; exact Nat.and_lt_two_pow (n := 32) _ (by omega)
              obtain ⟨q2, hq2, oq2⟩ : ∃ p : Nat, p = (a &&& c) ∧ bits .and .u32 (a : Int) (c : Int) = p := ⟨_, rfl, u32_and_nat a c oa oc⟩
              have lq2 : q2 < 4294967296 := by rw [hq2]; exact Nat.and_lt_two_pow (n := 32) _ (by omega)
              obtain ⟨q3, hq3, oq3⟩ : ∃ p : Nat, p = (q1 ^^^ q2) ∧ bits .xor .u32 (q1 : Int) (q2 : Int) = p := ⟨_, rfl, u32_xor_nat q1 q2 lq1 lq2⟩
              have lq3 : q3 < 4294967296 := by rw [hq3]; exact Nat.xor_lt_two_pow (n := 32) (by omega) (by omega)
              obtain ⟨q4, hq4, oq4⟩ : ∃ p : Nat, p = (b &&& c) ∧ bits .and .u32 (b : Int) (c : Int) = p := ⟨_, rfl, u32_and_nat b c ob' oc⟩
              have lq4 : q4 < 4294967296 := by rw [hq4]; exact Nat.and_lt_two_pow (n := 32) _ (by omega)
              obtain ⟨q5, hq5, oq5⟩ : ∃ p : Nat, p = (q3 ^^^ q4) ∧ bits .xor .u32 (q3 : Int) (q4 : Int) = p := ⟨_, rfl, u32_xor_nat q3 q4 lq3 lq4⟩
              have hch : chf ⟨a, b, c, d, e, f, g', h⟩ = p3 := by unfold chf; dsimp only; rw [hp3, hp1, hp2, hn1]
              have hmj : maj ⟨a, b, c, d, e, f, g', h⟩ = q5 := by unfold maj; dsimp only; rw [hq5, hq4, hq3, hq2, hq1]
              have HCH := Lib.hid hch
              have HMJ := Lib.hid hmj
              clear hch hmj hp1 hp2 hp3 hq1 hq2 hq3 hq4 hq5 hn1 lp1 lp2 lq1 lq2 lq3 lq4
              obtain ⟨fe, hfe⟩ : ∃ f : Int → Nat, ∀ n, f n = rotr e n.toNat := ⟨_, fun _ => rfl⟩
              obtain ⟨fa, hfa⟩ : ∃ f : Int → Nat, ∀ n, f n = rotr a n.toNat := ⟨_, fun _ => rfl⟩
              have be : ∀ n, fe n < 4294967296 := fun n => by rw [hfe]; exact rotr_lt _ _ oe
              have ba : ∀ n, fa n < 4294967296 := fun n => by rw [hfa]; exact rotr_lt _ _ oa
              obtain ⟨v1, hv1, ov1⟩ : ∃ p : Nat, p = (fe 6 ^^^ fe 11) ∧ bits .xor .u32 (fe 6 : Int) (fe 11 : Int) = p := ⟨_, rfl, u32_xor_nat _ _ (be _) (be _)⟩
              have lv1 : v1 < 4294967296 := by rw [hv1]; exact Nat.xor_lt_two_pow (n := 32) (be _) (be _)
              obtain ⟨t1, ht1, ot1⟩ : ∃ p : Nat, p = (v1 ^^^ fe 25) ∧ bits .xor .u32 (v1 : Int) (fe 25 : Int) = p := ⟨_, rfl, u32_xor_nat _ _ lv1 (be _)⟩
              have lt1 : t1 < 4294967296 := by rw [ht1]; exact Nat.xor_lt_two_pow (n := 32) (by omega) (be _)
              obtain ⟨v2, hv2, ov2⟩ : ∃ p : Nat, p = (fa 2 ^^^ fa 13) ∧ bits .xor .u32 (fa 2 : Int) (fa 13 : Int) = p := ⟨_, rfl, u32_xor_nat _ _ (ba _) (ba _)⟩
              have lv2 : v2 < 4294967296 := by rw [hv2]; exact Nat.xor_lt_two_pow (n := 32) (ba _) (ba _)
              obtain ⟨t2, ht2, ot2⟩ : ∃ p : Nat, p = (v2 ^^^ fa 22) ∧ bits .xor .u32 (v2 : Int) (fa 22 : Int) = p := ⟨_, rfl, u32_xor_nat _ _ lv2 (ba _)⟩
              have lt2 : t2 < 4294967296 := by rw [ht2]; exact Nat.xor_lt_two_pow (n := 32) (by omega) (ba _)
              have HT1 : Hid (Sig1 e = t1) := Lib.hid (by rw [ht1, hv1, hfe, hfe, hfe]; rfl)
              have HT2 : Hid (Sig0 a = t2) := Lib.hid (by rw [ht2, hv2, hfa, hfa, hfa]; rfl)
              have KE : ∀ (n : Int) w, 1 ≤ n ∧ n ≤ 31 → Calls Tryd.prog 88 #[.int .u32 e, .int .u64 n] w fun e w' => e = .returned (.int .u32 (fe n : Nat)) ∧ w = w' := fun n w hn => by
                have h := ref1_turn e n.toNat w oe (by omega) (by omega)
                rw [← hfe, Int.toNat_of_nonneg (by omega)] at h
                exact h
              have KA : ∀ (n : Int) w, 1 ≤ n ∧ n ≤ 31 → Calls Tryd.prog 88 #[.int .u32 a, .int .u64 n] w fun e w' => e = .returned (.int .u32 (fa n : Nat)) ∧ w = w' := fun n w hn => by
                have h := ref1_turn a n.toNat w oa (by omega) (by omega)
                rw [← hfa, Int.toNat_of_nonneg (by omega)] at h
                exact h
              have KQE : ∀ (n : Int) k w, 1 ≤ n ∧ n ≤ 31 → Calls Tryd.prog 88 #[.int .u32 e, .int .u64 n] (World.drewN w k) fun e w'' => e = .returned (.int .u32 (fe n : Nat)) ∧ ∃ m, w'' = w.drewN m := fun n k w hn => Calls.quiet_of_same ((KE n _ hn).mono (by rintro _ _ ⟨rfl, rfl⟩; exact ⟨rfl, rfl⟩))
              have KQA : ∀ (n : Int) j k w, 1 ≤ n ∧ n ≤ 31 → Calls Tryd.prog 88 #[.int .u32 a, .int .u64 n] (World.drewN w (j + k)) fun e w'' => e = .returned (.int .u32 (fa n : Nat)) ∧ ∃ m, w'' = w.drewN (j + m) := fun n j k w hn => (KA n _ hn).mono (by rintro _ _ ⟨rfl, rfl⟩; exact ⟨rfl, k, rfl⟩)
              have HKE := Lib.hid KQE
              have HKA := Lib.hid KQA
              clear hfe hfa hv1 hv2 ht1 ht2 be ba KE KA KQE KQA
              go_upto_region 18 with (fail)
              go_quiet ((go_at_call 88; ((refine HKE.out _ _ _ ?_)); decide))
              go_upto_region 19 with (fail)
              go_quiet ((go_at_call 88; ((refine HKA.out _ _ _ _ ?_)); decide))
              go_upto_region 20 with (fail)
              refine wp_region_lit ?_
              iterate 20 (refine wpList_read rfl ⟨?_, ?_, ?_⟩; rotate_left; (focus (go_simp; (try go_bits); try rfl)); simp only [Act.put, List.setIfInBounds_toArray, List.set_cons_zero, List.set_cons_succ])
              refine wpList_store_row rfl 76 _ _ rfl wo.heap.size _ rfl rfl 76 #[.int .u32 a, .int .u32 b, .int .u32 c, .int .u32 d, .int .u32 e, .int .u32 f, .int .u32 g', .int .u32 h] (by exact Hst.out) (by kernel_rfl) rfl (by simp [Value.oneCell']) ?_
              go_wp2_with fail
              go_roundw
              case rel =>
                refine ⟨k + 1, round ⟨a, b, c, d, e, f, g', h⟩ kk ww, by omega, by go_num, ?_, ?_, ?_, ?_⟩
                · rw [rounds, ← Hs.out, HKK.out, HWW.out]
                · exact round_ok _ _ _ Hok.out
                · show Blk _ _ _ (round ⟨a, b, c, d, e, f, g', h⟩ kk ww).vals
                  rw [round_vals a b c d e f g' h kk ww t1 t2 p3 q5 HT1.out HT2.out HCH.out HMJ.out]
                  exact (Hst.out.drewN _).setRow _
                · exact (below_drewN Hb3.out _).grown (grown_setRow _ _ _) (Nat.le_of_lt Hst.out.lt) (fun k hk => by injection hk with hk; omega)
              case measure => simp [intOf]; omega
            · have qk : ¬ (k : Int) < 64 := by omega
              have hk' : k = 64 := by omega
              have hz : (⟨a, b, c, d, e, f, g', h⟩ : St) = rounds W s0 64 := by rw [← hk']; exact Hs.out
              obtain ⟨z, hzz⟩ : ∃ z : St, z = ⟨a, b, c, d, e, f, g', h⟩ := ⟨_, rfl⟩
              have hzb : Blk wr wo.heap.size 76 (wordv z.list).toArray := by rw [hzz]; exact hst
              rw [← hzz] at hz
              have Hz := Lib.hid hz
              have Hzb := Lib.hid hzb
              have hzu : u32s z.list := by
                rw [hz]; exact St.ok_list (rounds_ok W s0 HS2.out 64)
              have Hzu := Lib.hid hzu
              obtain ⟨wq, rfl⟩ : ∃ x, x = wr := ⟨_, rfl⟩
              have hgq : Blk wq gh 76 (wordv s0.list).toArray := (HG2.out.below hb3 (by omega))
              have Hgq := Lib.hid hgq
              have hrq : Blk wq gr 76 #[.int .u32 0, .int .u32 0, .int .u32 0, .int .u32 0, .int .u32 0, .int .u32 0, .int .u32 0, .int .u32 0] := (HR2.out.below hb3 (by omega))
              have Hrq := Lib.hid hrq
              have Hb3 := Lib.hid hb3
              have hgo : gh ≠ wo.heap.size := by omega
              have Hs0 := Lib.hid (St.ok_list HS2.out)
              clear hzz hz hzb hzu hst hb3 hgq hk' hk64 oa ob' oc od oe of og oh hrq
              go_wp2_with fail
              go_loopw [18] (fun i wr => ∃ (k : Nat), k ≤ 8 ∧ i = .int .i64 k ∧ Blk wr gh 76 (wordv (addl s0.list z.list k)).toArray ∧ wq.grownBy wr (some gh)) (fun i _ => 8 - (intOf i).toNat)
              case atStart => exact ⟨0, by omega, rfl, by rw [addl_zero]; exact Hgq.out, World.grownBy.refl _ _⟩
              case round =>
                obtain ⟨k, hk, rfl, hgk, hgr⟩ := hrel
                by_cases hk8 : k < 8
                · have qk8 : (k : Int) < 8 := by omega
                  have cg := hgk.cell k
                  rw [addl_cell (by simp [St.list]; omega), if_neg (Nat.lt_irrefl k)] at cg
                  have cz := (Hzb.out.grown hgr (by intro e; injection e with e; exact hgo e.symm)).cell k
                  rw [list_cell (by simp [St.list]; omega)] at cz
                  have fg := hgk.frozen k
                  have Hgk := Lib.hid hgk
                  have Hgr := Lib.hid hgr
                  obtain ⟨x, hx⟩ : ∃ x, s0.list.getD k 0 = x := ⟨_, rfl⟩
                  obtain ⟨y, hy⟩ : ∃ x, z.list.getD k 0 = x := ⟨_, rfl⟩
                  rw [hx] at cg
                  rw [hy] at cz
                  have lx : x < 4294967296 := hx ▸ Hs0.out.getD k
                  have ly : y < 4294967296 := hy ▸ Hzu.out.getD k
                  have Hx := Lib.hid hx
                  have Hy := Lib.hid hy
                  clear hx hy hgk hgr
                  go_wp2_with fail
                  go_still_tail 9, (by kernel_rfl)
                  change wpList _ _ _ _ _ wr.drew
                  go_wp2
                  go_roundw
                  case rel =>
                    refine ⟨k + 1, by omega, by go_num, ?_, ?_⟩
                    · rw [← addl_set (by simp [St.list]; omega), Hx.out, Hy.out]
                      have e : (((x + y) % 4294967296 : Nat) : Int) = ((x : Int) + y) % 4294967296 := by omega
                      rw [e]
                      exact Hgk.out.drew.set_ k _
                    · exact only_setCell (only_drew Hgr.out) (.inl rfl) _
                  case measure => simp [intOf]; omega
                · have qk8 : ¬ (k : Int) < 8 := by omega
                  have hk8' : k = 8 := by omega
                  rw [hk8', addl_all] at hgk
                  have hmx : addSt s0 z = mixed bs s0 := by rw [Hz.out, ← HW.out]; rfl
                  rw [hmx, ← St.vals_list] at hgk
                  obtain ⟨z', hz'⟩ : ∃ z', mixed bs s0 = z' := ⟨_, rfl⟩
                  rw [hz'] at hgk
                  have HZZ := Lib.hid hz'
                  clear hz'
                  have hrr := Hrq.out.grown hgr (by intro e; injection e with e; omega)
                  have d0 := hgk.cell 0; have d1 := hgk.cell 1; have d2 := hgk.cell 2; have d3 := hgk.cell 3; have d4 := hgk.cell 4; have d5 := hgk.cell 5; have d6 := hgk.cell 6; have d7 := hgk.cell 7
                  simp [St.vals] at d0 d1 d2 d3 d4 d5 d6 d7
                  have hend : Below w.heap.size w wr := (HBO.out.trans (Hb3.out.mono (by rw [HGH.out]; omega))).trans (below_only1 hgr (by rw [HGH.out]; omega) (by have := Hgq.out.lt; omega))
                  have HE := Lib.hid hend
                  have Hrr := Lib.hid hrr
                  have hwr : gr < wr.heap.size := hrr.lt
                  clear hgk hgr hk8' hk8 hrr hend hmx
                  go_wp2_with (refine wpList_store_row rfl 76 (.tmp 6) _ rfl gr _ rfl rfl 76 _ Hrr.out (by kernel_rfl) rfl (by simp [Value.oneCell']) ?_)
                  have z8 := Hrr.out.setRow #[.int .u32 z'.a, .int .u32 z'.b, .int .u32 z'.c, .int .u32 z'.d, .int .u32 z'.e, .int .u32 z'.f, .int .u32 z'.g, .int .u32 z'.h]
                  have HRZ := rangeAt_blk (l := [.int .u32 z'.a, .int .u32 z'.b, .int .u32 z'.c, .int .u32 z'.d, .int .u32 z'.e, .int .u32 z'.f, .int .u32 z'.g, .int .u32 z'.h]) z8 0 [.int .u32 z'.a, .int .u32 z'.b, .int .u32 z'.c, .int .u32 z'.d, .int .u32 z'.e, .int .u32 z'.f, .int .u32 z'.g, .int .u32 z'.h] (fun j u h => by simpa using h)
                  refine bodyPost_ret (v := .agg #[.int .u32 z'.a, .int .u32 z'.b, .int .u32 z'.c, .int .u32 z'.d, .int .u32 z'.e, .int .u32 z'.f, .int .u32 z'.g, .int .u32 z'.h]) (results_cell rfl rfl (run_loadVar_mid _ _ 0 _ _ _ HRZ Tryd.underlying76 rfl (by kernel_rfl))) rfl ⟨?_, below_setRow HE.out (by rw [HGH.out]; omega) _⟩
                  rw [HZZ.out]
                  rfl

end Go.Proofs.YtamhggndcegndaaDoor
