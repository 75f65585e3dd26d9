/-
  deponentlaw18.RequestNumbers: true.
-/
import Derived.Test.YtbkdccamimakoaaDoorRNumsP
import Derived.Test.YtbkdccamimakoaaDoorAnsA
import Derived.Test.YtbkdccamimakoaaDoorReqDec
import Derived.Test.YtbkdccamimakoaaDoorRoomy
import Derived.Test.YtbkdccamimakoaaDoorRspAt
import Derived.Test.YtbkdccamimakoaaDoorReads
namespace Go.Proofs.YtbkdccamimakoaaDoor
open Go.RowKit
set_option linter.unusedVariables false
set_option maxRecDepth 100000

theorem make_cavs5 (w : World) : (Instr.makeSlice 25 (.int .i64 5) (.int .i64 5)).run Tryd.prog w = .ok (.slice (some ⟨w.heap.size, 0, none⟩) 5 5) (w.alloc (.cells (cavv (List.replicate 5 (0, 0))).toArray 104)) := by
  obtain ⟨i0, hi0, hz0, hz1, hz2⟩ := info_parts Tryd.cav_info
  have h := run_make (P := Tryd.prog) w 25 104 i0 _ Tryd.underlying25 hi0 hz0 .i64 .i64 5 5 (by omega) (Int.le_refl _) (by rw [hz2]; omega) (by omega)
  rw [h, hz1]
  have e : madeCells (Value.agg #[.int .i64 0, .int .u32 0]).cells ((5 : Int).toNat * 2) = (cavv (List.replicate 5 (0, 0))).toArray := by kernel_rfl
  rw [e]
  rfl

theorem madeCells_const (v : Value) (m n : Nat) (hm : 0 < m) : madeCells (List.replicate m v).toArray n = (List.replicate n v).toArray := by
  refine Array.ext (by simp [size_madeCells]) fun k h1 h2 => ?_
  have hk : k % m < m := Nat.mod_lt _ hm
  simp [madeCells, hk]

theorem make_digs (w : World) : (Instr.makeSlice 51 (.int .i64 256) (.int .i64 256)).run Tryd.prog w = .ok (.slice (some ⟨w.heap.size, 0, none⟩) 256 256) (w.alloc (.cells (digv (List.replicate 256 (List.replicate 32 0))).toArray 27)) := by
  obtain ⟨i0, hi0, hz0, hz1, hz2⟩ := info_parts Tryd.digs_info
  have h := run_make (P := Tryd.prog) w 51 27 i0 _ Tryd.underlying51 hi0 hz0 .i64 .i64 256 256 (by omega) (Int.le_refl _) (by rw [hz2]; omega) (by omega)
  rw [h, hz1]
  have e : madeCells (Value.agg #[.int .u8 0, .int .u8 0, .int .u8 0, .int .u8 0, .int .u8 0, .int .u8 0, .int .u8 0, .int .u8 0, .int .u8 0, .int .u8 0, .int .u8 0, .int .u8 0, .int .u8 0, .int .u8 0, .int .u8 0, .int .u8 0, .int .u8 0, .int .u8 0, .int .u8 0, .int .u8 0, .int .u8 0, .int .u8 0, .int .u8 0, .int .u8 0, .int .u8 0, .int .u8 0, .int .u8 0, .int .u8 0, .int .u8 0, .int .u8 0, .int .u8 0, .int .u8 0]).cells ((256 : Int).toNat * 32) = (digv (List.replicate 256 (List.replicate 32 0))).toArray := by
    have hz : (Value.agg #[.int .u8 0, .int .u8 0, .int .u8 0, .int .u8 0, .int .u8 0, .int .u8 0, .int .u8 0, .int .u8 0, .int .u8 0, .int .u8 0, .int .u8 0, .int .u8 0, .int .u8 0, .int .u8 0, .int .u8 0, .int .u8 0, .int .u8 0, .int .u8 0, .int .u8 0, .int .u8 0, .int .u8 0, .int .u8 0, .int .u8 0, .int .u8 0, .int .u8 0, .int .u8 0, .int .u8 0, .int .u8 0, .int .u8 0, .int .u8 0, .int .u8 0, .int .u8 0]).cells = (List.replicate 32 (Value.int .u8 0)).toArray := rfl
    have hr : digv (List.replicate 256 (List.replicate 32 0)) = List.replicate 8192 (Value.int .u8 0) := by
      unfold digv byv
      rw [List.flatMap_replicate, List.map_replicate, List.flatten_replicate_replicate]
      rfl
    rw [hz, hr]
    exact madeCells_const _ 32 8192 (by decide)
  rw [e]
  rfl

def rq1 : Req := { noReq with op := 13 }

def rq2 : Req := { noReq with op := 2, tree := 256 }

def rq3 : Req := { noReq with op := 1, leaf := List.replicate 257 0 }

def rq4 : Req := { noReq with op := 2, cavs := List.replicate 5 (0, 0) }

def rq7 : Req := { noReq with op := 2 }

def rs5 : Rsp := { zeroRsp with why := 12 }

def rs9 : Rsp := { zeroRsp with hashes := List.replicate 256 (List.replicate 32 0) }

theorem rn_c1 (w : World) : Calls Tryd.prog 23 #[.agg (reqv rq1 (.slice none 0 0) (.slice none 0 0)).toArray] w fun e w' => (∃ v, e = .returned (.tuple #[v, .int .i64 1])) ∧ Below w.heap.size w w' := by
  have k := request_body rq1 (.slice none 0 0) none 0 w (noReq_fit2 13 0 [] [] (by decide)) Reads.none_ (Nat.le_refl _) (by simp [maxLen])
  rw [show bodyRes rq1 = (1, []) from rn_1] at k
  exact k.mono fun e w' ⟨v, he, _, hb⟩ => ⟨⟨v, he⟩, hb⟩

theorem rn_c2 (w : World) : Calls Tryd.prog 23 #[.agg (reqv rq2 (.slice none 0 0) (.slice none 0 0)).toArray] w fun e w' => (∃ v, e = .returned (.tuple #[v, .int .i64 1])) ∧ Below w.heap.size w w' := by
  have k := request_body rq2 (.slice none 0 0) none 0 w (noReq_fit2 2 256 [] [] (by decide)) Reads.none_ (Nat.le_refl _) (by simp [maxLen])
  rw [show bodyRes rq2 = (1, []) from rn_2] at k
  exact k.mono fun e w' ⟨v, he, _, hb⟩ => ⟨⟨v, he⟩, hb⟩

theorem rn_c3 (A : Addr) (w : World) (hr : Reads w w.heap.size 1 (some A) 257 (byv (List.replicate 257 0))) : Calls Tryd.prog 23 #[.agg (reqv rq3 (.slice none 0 0) (.slice (some A) 257 257)).toArray] w fun e w' => (∃ v, e = .returned (.tuple #[v, .int .i64 3])) ∧ Below w.heap.size w w' := by
  have k := request_body rq3 (.slice none 0 0) (some A) 257 w (noReq_fit2 1 0 [] (List.replicate 257 0) (by decide)) hr (Nat.le_refl _) (by simp [maxLen])
  rw [show bodyRes rq3 = (3, []) from rn_3] at k
  exact k.mono fun e w' ⟨v, he, _, hb⟩ => ⟨⟨v, he⟩, hb⟩

theorem rn_c4 (A : Addr) (w : World) (hr : Reads w w.heap.size 2 (some A) 5 (cavv (List.replicate 5 (0, 0)))) : Calls Tryd.prog 14 #[.agg (reqv rq4 (.slice (some A) 5 5) (.slice none 0 0)).toArray] w fun e w' => (∃ v, e = .returned (.tuple #[v, .int .i64 4])) ∧ Below w.heap.size w w' := by
  have k := request_encode rq4 (some A) 5 none 0 w (noReq_fit2 2 0 (List.replicate 5 (0, 0)) [] (by decide)) Reads.none_ (Nat.le_refl _) (by simp [maxLen]) hr (Nat.le_refl _) (by simp [maxLen]) (by decide) (by decide)
  rw [show encRes rq4 = (4, []) from rn_4] at k
  exact k.mono fun e w' ⟨v, he, _, hb⟩ => ⟨⟨v, he⟩, hb⟩

theorem rn_c7 (w : World) : Calls Tryd.prog 14 #[.agg (reqv rq7 (.slice none 0 0) (.slice none 0 0)).toArray] w fun e w' => ∃ v, e = .returned (.tuple #[v, .int .i64 0]) ∧ OwnB w' w.heap.size v lookB ∧ Below w.heap.size w w' := by
  have k := request_encode rq7 none 0 none 0 w (noReq_fit2 2 0 [] [] (by decide)) Reads.none_ (Nat.le_refl _) (by simp [maxLen]) Reads.none_ (Nat.le_refl _) (by simp [maxLen]) (by decide) (by decide)
  rw [show encRes rq7 = (0, lookB) from rn_7] at k
  exact k

theorem rs5_ok : rs5.Ok := ⟨by decide, fun x hx => (nomatch hx), fun x hx => (nomatch hx), Hd.zero_Ok, zeroTok_Ok⟩

theorem rs9_ok : rs9.Ok := ⟨by decide, fun x hx => (nomatch hx), fun x hx => by
  have : x ∈ List.replicate 256 (List.replicate 32 0) := hx
  obtain rfl := List.eq_of_mem_replicate this
  exact ⟨by simp, by intro y hy; simp at hy; omega⟩, Hd.zero_Ok, zeroTok_Ok⟩

theorem rn_c5 (w : World) : Calls Tryd.prog 18 #[.agg (rspv rs5 (.slice none 0 0) (.slice none 0 0) (.slice none 0 0)).toArray] w fun e w' => ∃ v, e = .returned (.tuple #[v, .int .i64 0]) ∧ OwnB w' w.heap.size v [12, 0, 0, 0, 0, 0, 0, 0, 0, 0, 0, 0, 0] ∧ Below w.heap.size w w' := by
  have k := request_answer rs5 none 0 none 0 none 0 w rs5_ok Reads.none_ (Nat.le_refl _) (by simp [maxLen]) Reads.none_ (Nat.le_refl _) (by simp [maxLen]) Reads.none_ (Nat.le_refl _) (by simp [maxLen])
  rw [show ansRes rs5 = (0, [12, 0, 0, 0, 0, 0, 0, 0, 0, 0, 0, 0, 0]) from rn_5] at k
  exact k

theorem rn_c9 (A : Addr) (w : World) (hr : Reads w w.heap.size 32 (some A) 256 (digv (List.replicate 256 (List.replicate 32 0)))) : Calls Tryd.prog 18 #[.agg (rspv rs9 (.slice none 0 0) (.slice (some A) 256 256) (.slice none 0 0)).toArray] w fun e w' => (∃ v, e = .returned (.tuple #[v, .int .i64 4])) ∧ Below w.heap.size w w' := by
  have k := request_answer rs9 none 0 (some A) 256 none 0 w rs9_ok Reads.none_ (Nat.le_refl _) (by simp [maxLen]) hr (Nat.le_refl _) (by simp [maxLen]) Reads.none_ (Nat.le_refl _) (by simp [maxLen])
  rw [show ansRes rs9 = (4, []) from rn_9] at k
  exact k.mono fun e w' ⟨v, he, _, hb⟩ => ⟨⟨v, he⟩, hb⟩

theorem rn_dec (bs : List Nat) (x : Nat × Nat) (hx : (reqDec bs).1 = some x) (A : Option Addr) (n c : Nat) (w : World) (hr : Reads w w.heap.size 1 A n (byv bs)) (hn : n ≤ 140737488355328) (hb : ∀ x ∈ bs, x < 256) (hE : w.cell? ⟨0, 0, none⟩ = some (.iface 148 (.agg #[.pointer (some ⟨1, 34, none⟩)]))) :
    Calls Tryd.prog 8 #[.slice A n c] w fun e w' => ∃ (P : List Value) (r : Value), e = .returned (.tuple #[.agg P.toArray, r]) ∧ P.length = 48 ∧ (∀ u ∈ P, u.oneCell' = true) ∧ RErr w' w.heap.size r (some x) ∧ Below w.heap.size w w' := by
  refine (request_decode bs A n c w hr hn hb hE).mono ?_
  rintro e w' ⟨cav, lv, r, rfl, oc, ol, er, hbl⟩
  rw [hx] at er
  obtain ⟨A7, n7, c7, rfl, -⟩ := OwnC.sl oc
  obtain ⟨Al7, m7, cl7, rfl, -⟩ := OwnB.sl ol
  exact ⟨_, r, rfl, req_size _ _ _ (reqDec_fine bs hb).tag, reqv_one _ _ _ rfl rfl, er, hbl⟩


-- END BY HAND
set_option maxHeartbeats 4000000 in
theorem numbers18_walk (w : World) (hE : w.cell? ⟨0, 0, none⟩ = some (.iface 148 (.agg #[.pointer (some ⟨1, 34, none⟩)]))) :
    Calls Tryd.prog 6 #[] w fun e w' => e = .returned (.bool true) ∧ Below w.heap.size w w' := by
  have HE := Lib.hid hE
  clear hE
  obtain ⟨L1, hL1⟩ : ∃ L, reqv rq1 (.slice none 0 0) (.slice none 0 0) = L := ⟨_, rfl⟩
  have cc1 := rn_c1
  have bb1 := built_rn1 13
  rw [show reqv { noReq with op := 13 } (.slice none 0 0) (.slice none 0 0) = L1 from hL1] at bb1
  simp only [hL1] at cc1
  have C1 := Lib.hid cc1
  have B1 := Lib.hid bb1
  clear cc1 bb1
  obtain ⟨L2, hL2⟩ : ∃ L, reqv rq2 (.slice none 0 0) (.slice none 0 0) = L := ⟨_, rfl⟩
  have cc2 := rn_c2
  have bb2 := built_rn2 2 256
  rw [show reqv { noReq with op := 2, tree := 256 } (.slice none 0 0) (.slice none 0 0) = L2 from hL2] at bb2
  simp only [hL2] at cc2
  have C2 := Lib.hid cc2
  have B2 := Lib.hid bb2
  clear cc2 bb2
  clear hL1 hL2
  go_enter Tryd.func6, Tryd.ntmps6
  go_wp2_with (refine wpList_read rfl ⟨.agg L1.toArray, run_built 32 _ rfl _ _ B1.out (by simp [Act.eval]), ?_⟩)
  refine (C1.out w).mono ?_
  rintro e w1 ⟨⟨v1, rfl⟩, b1⟩
  have D1 := Lib.hid b1
  clear b1 C1 B1
  go_wp2_with (refine wpList_read rfl ⟨.agg L2.toArray, run_built 32 _ rfl _ _ B2.out (by simp [Act.eval]), ?_⟩)
  refine (C2.out w1).mono ?_
  rintro e w2 ⟨⟨v2, rfl⟩, b2⟩
  have D2 := Lib.hid (D1.out.trans (b2.mono D1.out.size))
  clear b2 C2 B2 D1
  obtain ⟨Z3, hZ3⟩ : ∃ Z, (byv (List.replicate 257 0)).toArray = Z := ⟨_, rfl⟩
  have mk3 : ∀ w : World, (Instr.makeSlice 22 (.int .i64 257) (.int .i64 257)).run Tryd.prog w = .ok (.slice (some ⟨w.heap.size, 0, none⟩) 257 257) (w.alloc (.cells Z3 5)) := fun w => by
    rw [← hZ3]
    exact make_bytes 257 (by decide) w
  have r3 : Reads (w2.alloc (.cells Z3 5)) (w2.alloc (.cells Z3 5)).heap.size 1 (some ⟨w2.heap.size, 0, none⟩) 257 (byv (List.replicate 257 0)) := by
    rw [← hZ3]
    exact reads_bytes_at w2 _ _ rfl 257 (by simp)
  obtain ⟨L3, hL3⟩ : ∃ L, reqv rq3 (.slice none 0 0) (.slice (some ⟨w2.heap.size, 0, none⟩) 257 257) = L := ⟨_, rfl⟩
  have cc3 := rn_c3 ⟨w2.heap.size, 0, none⟩
  have bb3 := built_rn3 1 (List.replicate 257 0) ⟨w2.heap.size, 0, none⟩ 257 257
  rw [show reqv { noReq with op := 1, leaf := List.replicate 257 0 } (.slice none 0 0) (.slice (some ⟨w2.heap.size, 0, none⟩) 257 257) = L3 from hL3] at bb3
  simp only [hL3] at cc3
  have C3 := Lib.hid cc3
  have B3 := Lib.hid bb3
  clear cc3 bb3
  have R3 := Lib.hid r3
  clear hZ3 hL3 r3
  go_wp2_with (refine wpList_read rfl ⟨.agg L3.toArray, run_built 32 _ rfl _ _ B3.out (by simp [Act.eval]), ?_⟩)
  refine (C3.out _ R3.out).mono ?_
  rintro e w3 ⟨⟨v3, rfl⟩, b3⟩
  have b3' : Below w2.heap.size w2 w3 := ((Below.refl _ _).alloc (Nat.le_refl _) _).trans (b3.mono (by simp))
  have D3 := Lib.hid (D2.out.trans (b3'.mono D2.out.size))
  clear b3 b3' C3 B3 D2 R3 mk3
  obtain ⟨Z4, hZ4⟩ : ∃ Z, (cavv (List.replicate 5 (0, 0))).toArray = Z := ⟨_, rfl⟩
  have mk4 : ∀ w : World, (Instr.makeSlice 25 (.int .i64 5) (.int .i64 5)).run Tryd.prog w = .ok (.slice (some ⟨w.heap.size, 0, none⟩) 5 5) (w.alloc (.cells Z4 104)) := fun w => by
    rw [← hZ4]
    exact make_cavs5 w
  have r4 : Reads (w3.alloc (.cells Z4 104)) (w3.alloc (.cells Z4 104)).heap.size 2 (some ⟨w3.heap.size, 0, none⟩) 5 (cavv (List.replicate 5 (0, 0))) := by
    rw [← hZ4]
    have := Reads.new w3 104 (cavv (List.replicate 5 (0, 0))) 2 5 rfl
    rw [alloc_size]
    exact this
  obtain ⟨T4, hT4⟩ : ∃ T, tokv 0 (.slice (some ⟨w3.heap.size, 0, none⟩) 5 5) (List.replicate 32 0) = T := ⟨_, rfl⟩
  have bt4 := built_rn4t ⟨w3.heap.size, 0, none⟩ 5 5
  rw [hT4] at bt4
  have BT4 := Lib.hid bt4
  obtain ⟨L4, hL4⟩ : ∃ L, reqv rq4 (.slice (some ⟨w3.heap.size, 0, none⟩) 5 5) (.slice none 0 0) = L := ⟨_, rfl⟩
  have cc4 := rn_c4 ⟨w3.heap.size, 0, none⟩
  have bb4 := built_rn4 2 (List.replicate 5 (0, 0)) ⟨w3.heap.size, 0, none⟩ 5 5
  rw [hT4, show reqv { noReq with op := 2, cavs := List.replicate 5 (0, 0) } (.slice (some ⟨w3.heap.size, 0, none⟩) 5 5) (.slice none 0 0) = L4 from hL4] at bb4
  simp only [hL4] at cc4
  have C4 := Lib.hid cc4
  have B4 := Lib.hid bb4
  have R4 := Lib.hid r4
  clear hZ4 hL4 hT4 bt4 cc4 bb4 r4
  go_wp2_with (first
    | (refine wpList_read rfl ⟨.agg T4.toArray, run_built 29 _ rfl _ _ BT4.out (by simp [Act.eval]), ?_⟩)
    | (refine wpList_read rfl ⟨.agg L4.toArray, run_built 32 _ rfl _ _ B4.out (by simp [Act.eval, Act.put]), ?_⟩))
  refine (C4.out _ R4.out).mono ?_
  rintro e w4 ⟨⟨v4, rfl⟩, b4⟩
  have b4' : Below w3.heap.size w3 w4 := ((Below.refl _ _).alloc (Nat.le_refl _) _).trans (b4.mono (by simp))
  have D4 := Lib.hid (D3.out.trans (b4'.mono D3.out.size))
  clear b4 b4' C4 B4 D3 R4 mk4 BT4
  obtain ⟨L5, hL5⟩ : ∃ L, rspv rs5 (.slice none 0 0) (.slice none 0 0) (.slice none 0 0) = L := ⟨_, rfl⟩
  have cc5 := rn_c5
  have bb5 := built_rn5 12
  rw [show rspv { zeroRsp with why := 12 } (.slice none 0 0) (.slice none 0 0) (.slice none 0 0) = L5 from hL5] at bb5
  simp only [hL5] at cc5
  have C5 := Lib.hid cc5
  have B5 := Lib.hid bb5
  clear cc5 bb5
  clear hL5
  go_wp2_with (refine wpList_read rfl ⟨.agg L5.toArray, run_built 57 _ rfl _ _ B5.out (by simp [Act.eval]), ?_⟩)
  refine (C5.out w4).mono ?_
  rintro e w5 ⟨v5, rfl, own5, b5⟩
  have D5 := Lib.hid (D4.out.trans (b5.mono D4.out.size))
  have O5 := Lib.hid own5
  clear b5 own5 C5 B5 D4
  have c6 := rn_dec [] (0, 10) rn_6 none 0 0 w5 Reads.none_ (by omega) (fun x hx => (nomatch hx)) ((D5.out.cell (p := ⟨0, 0, none⟩) (World.block_lt_of_cell? _ _ HE.out)).trans HE.out)
  have C6 := Lib.hid c6
  clear c6
  go_wp2_with fail
  refine C6.out.mono ?_
  rintro e w6 ⟨P6, v6, rfl, lP, oP, er6, b6⟩
  have IP := Lib.hid (show (Tryd.prog.info? 32).map (·.size) = some P6.toArray.size by rw [List.size_toArray, lP]; exact Tryd.req_info)
  have LP := Lib.hid lP
  have OP := Lib.hid oP
  have D6 := Lib.hid (D5.out.trans (b6.mono D5.out.size))
  have O6 := Lib.hid (O5.out.kept b6)
  have E6 := Lib.hid er6
  have Z6 := Lib.hid (Blk.new w6 32 #[.int .i64 0, .int .u32 0, .slice none 0 0, .int .u8 0, .int .u8 0, .int .u8 0, .int .u8 0, .int .u8 0, .int .u8 0, .int .u8 0, .int .u8 0, .int .u8 0, .int .u8 0, .int .u8 0, .int .u8 0, .int .u8 0, .int .u8 0, .int .u8 0, .int .u8 0, .int .u8 0, .int .u8 0, .int .u8 0, .int .u8 0, .int .u8 0, .int .u8 0, .int .u8 0, .int .u8 0, .int .u8 0, .int .u8 0, .int .u8 0, .int .u8 0, .int .u8 0, .int .u8 0, .int .u8 0, .int .u8 0, .int .i64 0, .int .i64 0, .int .i64 0, .int .i64 0, .int .i64 0, .int .u32 0, .int .u64 0, .int .u64 0, .int .u32 0, .int .u32 0, .int .u32 0, .int .u64 0, .slice none 0 0])
  clear lP oP er6 b6 O5 D5 C6
  go_upto_region 7 with (refine wpList_store_row rfl 32 (.tmp 11) (.tmp 49) rfl w6.heap.size P6.toArray rfl rfl 32 _ Z6.out IP.out (by simp [LP.out]) (by simpa using OP.out) ?_)
  obtain ⟨w7, h7⟩ : ∃ x, x = (w6.alloc (.cells #[.int .i64 0, .int .u32 0, .slice none 0 0, .int .u8 0, .int .u8 0, .int .u8 0, .int .u8 0, .int .u8 0, .int .u8 0, .int .u8 0, .int .u8 0, .int .u8 0, .int .u8 0, .int .u8 0, .int .u8 0, .int .u8 0, .int .u8 0, .int .u8 0, .int .u8 0, .int .u8 0, .int .u8 0, .int .u8 0, .int .u8 0, .int .u8 0, .int .u8 0, .int .u8 0, .int .u8 0, .int .u8 0, .int .u8 0, .int .u8 0, .int .u8 0, .int .u8 0, .int .u8 0, .int .u8 0, .int .u8 0, .int .i64 0, .int .i64 0, .int .i64 0, .int .i64 0, .int .i64 0, .int .u32 0, .int .u64 0, .int .u64 0, .int .u32 0, .int .u32 0, .int .u32 0, .int .u64 0, .slice none 0 0] 32)).setRow w6.heap.size P6.toArray := ⟨_, rfl⟩
  rw [← h7]
  have b67 : Below w6.heap.size w6 w7 := by rw [h7]; exact below_setRow ((Below.refl _ _).alloc (Nat.le_refl _) _) (Nat.le_refl _) _
  have D7 := Lib.hid (D6.out.trans (b67.mono D6.out.size))
  have O7 := Lib.hid (O6.out.kept b67)
  have E7 := Lib.hid (E6.out.below b67)
  clear h7 b67 D6 O6 E6 Z6 IP LP OP
  obtain ⟨L7, hL7⟩ : ∃ L, reqv rq7 (.slice none 0 0) (.slice none 0 0) = L := ⟨_, rfl⟩
  have cc7 := rn_c7
  have bb7 := built_rn1 2
  rw [show reqv { noReq with op := 2 } (.slice none 0 0) (.slice none 0 0) = L7 from hL7] at bb7
  simp only [hL7] at cc7
  have C7 := Lib.hid cc7
  have B7 := Lib.hid bb7
  clear cc7 bb7
  clear hL7
  go_wp2_with (refine wpList_read rfl ⟨.agg L7.toArray, run_built 32 _ rfl _ _ B7.out (by simp [Act.eval]), ?_⟩)
  refine (C7.out w7).mono ?_
  rintro e w8 ⟨v8, rfl, own8, b8⟩
  obtain ⟨A8, n8, c8, rfl, nc8, mc8, rd8⟩ := own8.sl
  have hn8 : n8 = 41 := by rw [← reads_bytes_le rd8]; exact rn_7l
  subst hn8
  have D8 := Lib.hid (D7.out.trans (b8.mono D7.out.size))
  have O8 := Lib.hid (O7.out.kept b8)
  have E8 := Lib.hid (E7.out.below b8)
  have R8 := Lib.hid (rd8.laid (.cells #[] 5))
  clear b8 own8 C7 B7 D7 O7 E7 rd8 nc8
  go_wp2_with (at_builtin; refine append_bytes rfl (.tmp 57) (.tmp 58) rfl w8.heap.size _ [] rfl (OwnB.made w8 [] (by simp [maxLen])) A8 41 c8 lookB rfl R8.out (by simp) (by simp) ?_)
  intro v9 w9 own9 b9 g9
  have OW9 := Lib.hid own9
  have B9 := Lib.hid (show Below w8.heap.size w8 w9 from ((Below.refl _ _).alloc (Nat.le_refl _) _).trans b9)
  clear own9 b9 g9
  go_wp2_with (at_builtin; refine append_bytes rfl (.tmp 59) (.tmp 60) rfl w8.heap.size _ _ rfl (OW9.out.alloc _) _ 1 1 [0] rfl (reads_one w9 0) (by simp [rn_7l]) (by have := B9.out.size; simp; omega) ?_)
  intro va wa owna ba ga
  obtain ⟨Aa, na, ca, rfl, nca, mca, rda⟩ := owna.sl
  have hna : na ≤ 140737488355328 := by
    rw [← reads_bytes_le rda]
    simp only [List.nil_append, List.length_append, rn_7l]
    decide
  have ba' : Below w8.heap.size w8 wa := (B9.out.alloc B9.out.size _).trans ba
  have Da := Lib.hid (D8.out.trans (ba'.mono D8.out.size))
  have Oa := Lib.hid (O8.out.kept ba')
  have Ea := Lib.hid (E8.out.below ba')
  have cd := rn_dec (lookB ++ [0]) (41, 11) rn_8 Aa na ca wa rda hna (by
    intro x hx
    rcases List.mem_append.1 hx with hx | hx
    · exact rn_7b x hx
    · obtain rfl := List.mem_singleton.1 hx
      decide) ((Da.out.cell (p := ⟨0, 0, none⟩) (World.block_lt_of_cell? _ _ HE.out)).trans HE.out)
  have CD := Lib.hid cd
  clear cd ba' ba ga owna rda hna nca OW9 B9 R8 D8 O8 E8
  go_wp2_with fail
  refine CD.out.mono ?_
  rintro e wb ⟨Pb, vb, rfl, lP, oP, erb, bb⟩
  have IP := Lib.hid (show (Tryd.prog.info? 32).map (·.size) = some Pb.toArray.size by rw [List.size_toArray, lP]; exact Tryd.req_info)
  have LP := Lib.hid lP
  have OP := Lib.hid oP
  have Db := Lib.hid (Da.out.trans (bb.mono Da.out.size))
  have Ob := Lib.hid (Oa.out.kept bb)
  have Eb := Lib.hid (Ea.out.below bb)
  have Fb := Lib.hid erb
  have Zb := Lib.hid (Blk.new wb 32 #[.int .i64 0, .int .u32 0, .slice none 0 0, .int .u8 0, .int .u8 0, .int .u8 0, .int .u8 0, .int .u8 0, .int .u8 0, .int .u8 0, .int .u8 0, .int .u8 0, .int .u8 0, .int .u8 0, .int .u8 0, .int .u8 0, .int .u8 0, .int .u8 0, .int .u8 0, .int .u8 0, .int .u8 0, .int .u8 0, .int .u8 0, .int .u8 0, .int .u8 0, .int .u8 0, .int .u8 0, .int .u8 0, .int .u8 0, .int .u8 0, .int .u8 0, .int .u8 0, .int .u8 0, .int .u8 0, .int .u8 0, .int .i64 0, .int .i64 0, .int .i64 0, .int .i64 0, .int .i64 0, .int .u32 0, .int .u64 0, .int .u64 0, .int .u32 0, .int .u32 0, .int .u32 0, .int .u64 0, .slice none 0 0])
  clear lP oP erb bb Oa Da Ea CD
  go_upto_region 9 with (refine wpList_store_row rfl 32 (.tmp 15) (.tmp 63) rfl wb.heap.size Pb.toArray rfl rfl 32 _ Zb.out IP.out (by simp [LP.out]) (by simpa using OP.out) ?_)
  obtain ⟨wc, hc⟩ : ∃ x, x = (wb.alloc (.cells #[.int .i64 0, .int .u32 0, .slice none 0 0, .int .u8 0, .int .u8 0, .int .u8 0, .int .u8 0, .int .u8 0, .int .u8 0, .int .u8 0, .int .u8 0, .int .u8 0, .int .u8 0, .int .u8 0, .int .u8 0, .int .u8 0, .int .u8 0, .int .u8 0, .int .u8 0, .int .u8 0, .int .u8 0, .int .u8 0, .int .u8 0, .int .u8 0, .int .u8 0, .int .u8 0, .int .u8 0, .int .u8 0, .int .u8 0, .int .u8 0, .int .u8 0, .int .u8 0, .int .u8 0, .int .u8 0, .int .u8 0, .int .i64 0, .int .i64 0, .int .i64 0, .int .i64 0, .int .i64 0, .int .u32 0, .int .u64 0, .int .u64 0, .int .u32 0, .int .u32 0, .int .u32 0, .int .u64 0, .slice none 0 0] 32)).setRow wb.heap.size Pb.toArray := ⟨_, rfl⟩
  rw [← hc]
  have bbc : Below wb.heap.size wb wc := by rw [hc]; exact below_setRow ((Below.refl _ _).alloc (Nat.le_refl _) _) (Nat.le_refl _) _
  have Dc := Lib.hid (Db.out.trans (bbc.mono Db.out.size))
  have Oc := Lib.hid (Ob.out.kept bbc)
  have Ec := Lib.hid (Eb.out.below bbc)
  have Fc := Lib.hid (Fb.out.below bbc)
  clear hc bbc Db Ob Eb Fb Zb IP LP OP
  obtain ⟨Z9, hZ9⟩ : ∃ Z, (digv (List.replicate 256 (List.replicate 32 0))).toArray = Z := ⟨_, rfl⟩
  have mk9 : ∀ w : World, (Instr.makeSlice 51 (.int .i64 256) (.int .i64 256)).run Tryd.prog w = .ok (.slice (some ⟨w.heap.size, 0, none⟩) 256 256) (w.alloc (.cells Z9 27)) := fun w => by
    rw [← hZ9]
    exact make_digs w
  have r9 : Reads (wc.alloc (.cells Z9 27)) (wc.alloc (.cells Z9 27)).heap.size 32 (some ⟨wc.heap.size, 0, none⟩) 256 (digv (List.replicate 256 (List.replicate 32 0))) := by
    rw [← hZ9]
    have := Reads.new wc 27 (digv (List.replicate 256 (List.replicate 32 0))) 32 256 (by rw [digv_len _ (fun d hd => by obtain rfl := List.eq_of_mem_replicate hd; simp), List.length_replicate])
    rw [alloc_size]
    exact this
  obtain ⟨L9, hL9⟩ : ∃ L, rspv rs9 (.slice none 0 0) (.slice (some ⟨wc.heap.size, 0, none⟩) 256 256) (.slice none 0 0) = L := ⟨_, rfl⟩
  have cc9 := rn_c9 ⟨wc.heap.size, 0, none⟩
  have bb9 := built_rn9 (List.replicate 256 (List.replicate 32 0)) ⟨wc.heap.size, 0, none⟩ 256 256
  rw [show rspv { zeroRsp with hashes := List.replicate 256 (List.replicate 32 0) } (.slice none 0 0) (.slice (some ⟨wc.heap.size, 0, none⟩) 256 256) (.slice none 0 0) = L9 from hL9] at bb9
  simp only [hL9] at cc9
  have C9 := Lib.hid cc9
  have B9 := Lib.hid bb9
  clear cc9 bb9
  have R9 := Lib.hid r9
  clear hZ9 hL9 r9
  go_wp2_with (refine wpList_read rfl ⟨.agg L9.toArray, run_built 57 _ rfl _ _ B9.out (by simp [Act.eval]), ?_⟩)
  refine (C9.out _ R9.out).mono ?_
  rintro e wd ⟨⟨vd, rfl⟩, bd⟩
  have bd' : Below wc.heap.size wc wd := ((Below.refl _ _).alloc (Nat.le_refl _) _).trans (bd.mono (by simp))
  have Dd := Lib.hid (Dc.out.trans (bd'.mono Dc.out.size))
  have Od := Oc.out.kept bd'
  have Ed := Lib.hid (Ec.out.below bd')
  have Fd := Lib.hid (Fc.out.below bd')
  obtain ⟨A5, n5, c5, rfl, -, -, hr5⟩ := Od.sl
  have s5 : (convert 22 9 (.slice A5 n5 c5)).run Tryd.prog wd = .ok (.string { data := #[12, 0, 0, 0, 0, 0, 0, 0, 0, 0, 0, 0, 0] }) wd := run_str hr5
  have S5 := Lib.hid s5
  have RF1 := Lib.hid (show Calls Tryd.prog 10 #[v6, .int .i64 0, .int .i64 10] wd fun e w' => e = .returned (.bool true) ∧ w' = wd from refused18 (some (0, 10)) v6 w5.heap.size wd Ed.out (by rintro x ⟨⟩; decide))
  have RF2 := Lib.hid (show Calls Tryd.prog 10 #[vb, .int .i64 41, .int .i64 11] wd fun e w' => e = .returned (.bool true) ∧ w' = wd from refused18 (some (41, 11)) vb wa.heap.size wd Fd.out (by rintro x ⟨⟩; decide))
  clear bd bd' Dc Oc Ec Fc C9 B9 R9 mk9 Od s5 hr5 mc8 mca
  have s5 := S5.out
  go_wp2_with fail
  refine RF1.out.mono ?_
  rintro e _ ⟨rfl, rfl⟩
  go_wp2_with fail
  refine RF2.out.mono ?_
  rintro e _ ⟨rfl, rfl⟩
  go_wp2_with fail
  refine (request_trees 10 _).mono ?_
  rintro e _ ⟨rfl, rfl⟩
  rw [show treesB 10 = false from rfl]
  go_wp2_with fail
  refine (request_trees 9 _).mono ?_
  rintro e _ ⟨rfl, rfl⟩
  rw [show treesB 9 = true from rfl]
  go_wp2_with fail
  refine (req_admin9 _).mono ?_
  rintro e _ ⟨rfl, rfl⟩
  go_wp2_with fail
  refine (req_admin5 _).mono ?_
  rintro e _ ⟨rfl, rfl⟩
  go_wp2_with fail
  refine (known18 _).mono ?_
  rintro e we ⟨rfl, be⟩
  have De := Lib.hid (Dd.out.trans (be.mono Dd.out.size))
  clear be
  go_wp2
  go_ret
  exact ⟨rfl, De.out⟩

end Go.Proofs.YtbkdccamimakoaaDoor
