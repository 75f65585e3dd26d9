/-
  request.Decode.
-/
import Derived.Test.YtbkdccamimakoaaDoorReqSpec
import Derived.Test.YtbkdccamimakoaaDoorEnc
namespace Go.Proofs.YtbkdccamimakoaaDoor
open Go.RowKit
set_option linter.unusedVariables false
set_option maxRecDepth 100000

theorem req_size (R : Req) (cav leafv : Value) (ht : R.tag.length = 32) : (reqv R cav leafv).length = 48 := by
  unfold reqv
  rw [List.length_append, List.length_cons, tokv_len _ _ _ ht]
  rfl

/-- Fields of the call's own. -/
def OwnF (w : World) (base g : Nat) (v : Value) (l : List Fld) : Prop := w.ownsRow base 82 4 v l.length (fldvs g l)

theorem OwnF.sl {w : World} {base g : Nat} {v : Value} {l : List Fld} (h : w.ownsRow base 82 4 v l.length (fldvs g l)) : ∃ A n c, v = .slice A n c ∧ n = l.length ∧ n ≤ c ∧ c ≤ maxLen ∧ Reads w w.heap.size 4 A n (fldvs g l) := by
  obtain ⟨A, c, h1, h2, h3, h4⟩ := own_slice h
  exact ⟨A, _, c, h1, rfl, h2, h3, h4⟩

theorem OwnF.kept {w w' : World} {base g : Nat} {v : Value} {l : List Fld} (h : OwnF w base g v l) (hb : Below w.heap.size w w') : OwnF w' base g v l :=
  World.ownsRow.kept h ⟨hb.os, hb.tape, hb.output, hb.size, fun k hk _ => hb.block k hk⟩ (row := none) (by cases v.ownBlock <;> simp)

/-- A request's token laid. -/
theorem req_tok (op : Int) (T : Tok) (cav leafv : Value) (ht : T.2.2.length = 32) :
    ((#[.int .i64 0, .int .u32 0, .slice none 0 0, .int .u8 0, .int .u8 0, .int .u8 0, .int .u8 0, .int .u8 0, .int .u8 0, .int .u8 0, .int .u8 0, .int .u8 0, .int .u8 0, .int .u8 0, .int .u8 0, .int .u8 0, .int .u8 0, .int .u8 0, .int .u8 0, .int .u8 0, .int .u8 0, .int .u8 0, .int .u8 0, .int .u8 0, .int .u8 0, .int .u8 0, .int .u8 0, .int .u8 0, .int .u8 0, .int .u8 0, .int .u8 0, .int .u8 0, .int .u8 0, .int .u8 0, .int .u8 0, .int .i64 0, .int .i64 0, .int .i64 0, .int .i64 0, .int .i64 0, .int .u32 0, .int .u64 0, .int .u64 0, .int .u32 0, .int .u32 0, .int .u32 0, .int .u64 0, .slice none 0 0] : Array Value).toList).take 1 ++ (tokv T.1 cav T.2.2 ++ ((#[.int .i64 0, .int .u32 0, .slice none 0 0, .int .u8 0, .int .u8 0, .int .u8 0, .int .u8 0, .int .u8 0, .int .u8 0, .int .u8 0, .int .u8 0, .int .u8 0, .int .u8 0, .int .u8 0, .int .u8 0, .int .u8 0, .int .u8 0, .int .u8 0, .int .u8 0, .int .u8 0, .int .u8 0, .int .u8 0, .int .u8 0, .int .u8 0, .int .u8 0, .int .u8 0, .int .u8 0, .int .u8 0, .int .u8 0, .int .u8 0, .int .u8 0, .int .u8 0, .int .u8 0, .int .u8 0, .int .u8 0, .int .i64 0, .int .i64 0, .int .i64 0, .int .i64 0, .int .i64 0, .int .u32 0, .int .u64 0, .int .u64 0, .int .u32 0, .int .u32 0, .int .u32 0, .int .u64 0, .slice none 0 0] : Array Value).toList).drop (1 + (tokv T.1 cav T.2.2).length)) = reqv (req0 T 0) cav (.slice none 0 0) := by
  rw [tokv_len _ _ _ ht]
  rfl

theorem load_req {w : World} {g : Nat} {L : List Value} (h : Blk w g 32 L.toArray) (hl : L.length = 48) : (loadVar 32 ⟨g, 0, none⟩).run Tryd.prog w = .ok (.agg L.toArray) w :=
  run_loadVar_mid _ _ 0 _ L _ (rangeAt_blk h 0 L (fun j u h => by simpa using h)) Tryd.underlying32 rfl (by rw [hl]; exact Tryd.req_info)

/-- The request of noughts. -/
def zeroReqv : List Value := reqv zeroReq (.slice none 0 0) (.slice none 0 0)

theorem zeroReqv_info : (Tryd.prog.info? 32).map (·.size) = some zeroReqv.toArray.size := by kernel_rfl

theorem zeroReqv_one : zeroReqv.toArray.all (·.oneCell') = true := by kernel_rfl

theorem built_zeroR : Tryd.prog.built 32 [] = some zeroReqv.toArray := by kernel_rfl

-- END BY HAND
set_option maxHeartbeats 8000000 in
theorem request_decode (bs : List Nat) (A : Option Addr) (n c : Nat) (w : World) (hr : Reads w w.heap.size 1 A n (byv bs)) (hn : n ≤ 140737488355328) (hb : ∀ x ∈ bs, x < 256) (hE : w.cell? ⟨0, 0, none⟩ = some (.iface 148 (.agg #[.pointer (some ⟨1, 34, none⟩)]))) :
    Calls Tryd.prog 8 #[.slice A n c] w fun e w' => ∃ cav lv r, e = .returned (.tuple #[.agg (reqv (reqDec bs).2 cav lv).toArray, r]) ∧ OwnC w' w.heap.size cav (reqDec bs).2.cavs ∧ OwnB w' w.heap.size lv (reqDec bs).2.leaf ∧ RErr w' w.heap.size r (reqDec bs).1 ∧ Below w.heap.size w w' := by
  have HB := Lib.hid hb
  have r0 := Blk.new w 32 #[.int .i64 0, .int .u32 0, .slice none 0 0, .int .u8 0, .int .u8 0, .int .u8 0, .int .u8 0, .int .u8 0, .int .u8 0, .int .u8 0, .int .u8 0, .int .u8 0, .int .u8 0, .int .u8 0, .int .u8 0, .int .u8 0, .int .u8 0, .int .u8 0, .int .u8 0, .int .u8 0, .int .u8 0, .int .u8 0, .int .u8 0, .int .u8 0, .int .u8 0, .int .u8 0, .int .u8 0, .int .u8 0, .int .u8 0, .int .u8 0, .int .u8 0, .int .u8 0, .int .u8 0, .int .u8 0, .int .u8 0, .int .i64 0, .int .i64 0, .int .i64 0, .int .i64 0, .int .i64 0, .int .u32 0, .int .u64 0, .int .u64 0, .int .u32 0, .int .u32 0, .int .u32 0, .int .u64 0, .slice none 0 0]
  have HE := Lib.hid hE
  have R0 := Lib.hid r0
  have HR := Lib.hid (hr.laid (.cells #[.int .i64 0, .int .u32 0, .slice none 0 0, .int .u8 0, .int .u8 0, .int .u8 0, .int .u8 0, .int .u8 0, .int .u8 0, .int .u8 0, .int .u8 0, .int .u8 0, .int .u8 0, .int .u8 0, .int .u8 0, .int .u8 0, .int .u8 0, .int .u8 0, .int .u8 0, .int .u8 0, .int .u8 0, .int .u8 0, .int .u8 0, .int .u8 0, .int .u8 0, .int .u8 0, .int .u8 0, .int .u8 0, .int .u8 0, .int .u8 0, .int .u8 0, .int .u8 0, .int .u8 0, .int .u8 0, .int .u8 0, .int .i64 0, .int .i64 0, .int .i64 0, .int .i64 0, .int .i64 0, .int .u32 0, .int .u64 0, .int .u64 0, .int .u32 0, .int .u32 0, .int .u32 0, .int .u64 0, .slice none 0 0] 32))
  have B00 : Below w.heap.size w (w.alloc (.cells #[.int .i64 0, .int .u32 0, .slice none 0 0, .int .u8 0, .int .u8 0, .int .u8 0, .int .u8 0, .int .u8 0, .int .u8 0, .int .u8 0, .int .u8 0, .int .u8 0, .int .u8 0, .int .u8 0, .int .u8 0, .int .u8 0, .int .u8 0, .int .u8 0, .int .u8 0, .int .u8 0, .int .u8 0, .int .u8 0, .int .u8 0, .int .u8 0, .int .u8 0, .int .u8 0, .int .u8 0, .int .u8 0, .int .u8 0, .int .u8 0, .int .u8 0, .int .u8 0, .int .u8 0, .int .u8 0, .int .u8 0, .int .i64 0, .int .i64 0, .int .i64 0, .int .i64 0, .int .i64 0, .int .u32 0, .int .u64 0, .int .u64 0, .int .u32 0, .int .u32 0, .int .u32 0, .int .u64 0, .slice none 0 0] 32)) := (Below.refl _ _).alloc (Nat.le_refl _) _
  obtain ⟨W0, hW0⟩ : ∃ x, x = w.alloc (.cells #[.int .i64 0, .int .u32 0, .slice none 0 0, .int .u8 0, .int .u8 0, .int .u8 0, .int .u8 0, .int .u8 0, .int .u8 0, .int .u8 0, .int .u8 0, .int .u8 0, .int .u8 0, .int .u8 0, .int .u8 0, .int .u8 0, .int .u8 0, .int .u8 0, .int .u8 0, .int .u8 0, .int .u8 0, .int .u8 0, .int .u8 0, .int .u8 0, .int .u8 0, .int .u8 0, .int .u8 0, .int .u8 0, .int .u8 0, .int .u8 0, .int .u8 0, .int .u8 0, .int .u8 0, .int .u8 0, .int .u8 0, .int .i64 0, .int .i64 0, .int .i64 0, .int .i64 0, .int .i64 0, .int .u32 0, .int .u64 0, .int .u64 0, .int .u32 0, .int .u32 0, .int .u32 0, .int .u64 0, .slice none 0 0] 32) := ⟨_, rfl⟩
  rw [← hW0] at R0 HR B00
  have HW0 := Lib.hid hW0
  have B0 := Lib.hid B00
  clear hE r0 hr hW0 B00
  go_enter Tryd.func8, Tryd.ntmps8
  go_upto_region 1 with (fail)
  rw [← HW0.out]
  go_wp2_with fail
  refine (reader_new bs A n c W0 HR.out hn).mono ?_
  rintro e w1 ⟨g, rfl, h1, b1⟩
  obtain ⟨B, hB⟩ : ∃ B, W0.heap.size = B := ⟨_, rfl⟩
  have hBw : w.heap.size < B := by rw [← hB]; exact R0.out.lt
  rw [hB] at h1
  have r1 := R0.out.below b1 R0.out.lt
  have bl1 : Below w.heap.size w w1 := B0.out.trans (b1.mono (by omega))
  have q1 := Blk.new w1 32 #[.int .i64 0, .int .u32 0, .slice none 0 0, .int .u8 0, .int .u8 0, .int .u8 0, .int .u8 0, .int .u8 0, .int .u8 0, .int .u8 0, .int .u8 0, .int .u8 0, .int .u8 0, .int .u8 0, .int .u8 0, .int .u8 0, .int .u8 0, .int .u8 0, .int .u8 0, .int .u8 0, .int .u8 0, .int .u8 0, .int .u8 0, .int .u8 0, .int .u8 0, .int .u8 0, .int .u8 0, .int .u8 0, .int .u8 0, .int .u8 0, .int .u8 0, .int .u8 0, .int .u8 0, .int .u8 0, .int .u8 0, .int .i64 0, .int .i64 0, .int .i64 0, .int .i64 0, .int .i64 0, .int .u32 0, .int .u64 0, .int .u64 0, .int .u32 0, .int .u32 0, .int .u32 0, .int .u64 0, .slice none 0 0]
  have h1' := h1.below ((Below.refl w1.heap.size w1).alloc (Nat.le_refl _) (.cells #[.int .i64 0, .int .u32 0, .slice none 0 0, .int .u8 0, .int .u8 0, .int .u8 0, .int .u8 0, .int .u8 0, .int .u8 0, .int .u8 0, .int .u8 0, .int .u8 0, .int .u8 0, .int .u8 0, .int .u8 0, .int .u8 0, .int .u8 0, .int .u8 0, .int .u8 0, .int .u8 0, .int .u8 0, .int .u8 0, .int .u8 0, .int .u8 0, .int .u8 0, .int .u8 0, .int .u8 0, .int .u8 0, .int .u8 0, .int .u8 0, .int .u8 0, .int .u8 0, .int .u8 0, .int .u8 0, .int .u8 0, .int .i64 0, .int .i64 0, .int .i64 0, .int .i64 0, .int .i64 0, .int .u32 0, .int .u64 0, .int .u64 0, .int .u32 0, .int .u32 0, .int .u32 0, .int .u64 0, .slice none 0 0] 32))
  have hg1 := h1.lt
  have hBg := h1.le
  obtain ⟨w2, hw2⟩ : ∃ x, x = w1.alloc (.cells #[.int .i64 0, .int .u32 0, .slice none 0 0, .int .u8 0, .int .u8 0, .int .u8 0, .int .u8 0, .int .u8 0, .int .u8 0, .int .u8 0, .int .u8 0, .int .u8 0, .int .u8 0, .int .u8 0, .int .u8 0, .int .u8 0, .int .u8 0, .int .u8 0, .int .u8 0, .int .u8 0, .int .u8 0, .int .u8 0, .int .u8 0, .int .u8 0, .int .u8 0, .int .u8 0, .int .u8 0, .int .u8 0, .int .u8 0, .int .u8 0, .int .u8 0, .int .u8 0, .int .u8 0, .int .u8 0, .int .u8 0, .int .i64 0, .int .i64 0, .int .i64 0, .int .i64 0, .int .i64 0, .int .u32 0, .int .u64 0, .int .u64 0, .int .u32 0, .int .u32 0, .int .u32 0, .int .u64 0, .slice none 0 0] 32) := ⟨_, rfl⟩
  rw [← hw2] at q1 h1'
  have H2 := Lib.hid h1'
  have Q2 := Lib.hid q1
  have R2 := Lib.hid (show Blk w2 w.heap.size 32 #[.int .i64 0, .int .u32 0, .slice none 0 0, .int .u8 0, .int .u8 0, .int .u8 0, .int .u8 0, .int .u8 0, .int .u8 0, .int .u8 0, .int .u8 0, .int .u8 0, .int .u8 0, .int .u8 0, .int .u8 0, .int .u8 0, .int .u8 0, .int .u8 0, .int .u8 0, .int .u8 0, .int .u8 0, .int .u8 0, .int .u8 0, .int .u8 0, .int .u8 0, .int .u8 0, .int .u8 0, .int .u8 0, .int .u8 0, .int .u8 0, .int .u8 0, .int .u8 0, .int .u8 0, .int .u8 0, .int .u8 0, .int .i64 0, .int .i64 0, .int .i64 0, .int .i64 0, .int .i64 0, .int .u32 0, .int .u64 0, .int .u64 0, .int .u32 0, .int .u32 0, .int .u32 0, .int .u64 0, .slice none 0 0] by rw [hw2]; exact r1.alloc _)
  have BL2 := Lib.hid (show Below w.heap.size w w2 by rw [hw2]; exact below_new bl1 _)
  have HW2 := Lib.hid hw2
  clear h1 h1' r1 bl1 q1 b1 hw2 hB
  go_upto_region 4 with (fail)
  rw [← HW2.out]
  obtain ⟨G5, hG5⟩ : ∃ G, w1.heap.size = G := ⟨_, rfl⟩
  rw [hG5] at Q2 hg1 ⊢
  clear hG5
  go_wp2_with fail
  refine (reader_bytes B g bs (0, none) 77 w2 H2.out HB.out (by omega)).mono ?_
  rintro e w3 ⟨v3, rfl, own3, h3, g3⟩
  obtain ⟨A3, n3, c3, rfl, nc3, mc3, rd3⟩ := own3.sl
  have raw := rBytes_lt bs (0, none) 77 HB.out
  have hraw := reads_bytes_le rd3
  have bl3 := adv BL2.out g3 (by omega) H2.out.lt
  have r3 := R2.out.grown g3 (by simp; omega)
  have q3 := Q2.out.grown g3 (by simp; omega)
  have hDE := token_decode (rBytes bs (0, none) 77).2 A3 n3 c3 w3 rd3 (by have := rBytes_len bs (0, none) 77 HB.out; omega) raw ((bl3.cell (p := ⟨0, 0, none⟩) (World.block_lt_of_cell? _ _ HE.out)).trans HE.out)
  have hrt : reqTok bs = if (tokDec (rBytes bs (0, none) 77).2).1 = none then (rBytes bs (0, none) 77).1 else rRefuse (rBytes bs (0, none) 77).1 (rBytes bs (0, none) 77).1.1 12 := rfl
  have hT : reqT bs = (tokDec (rBytes bs (0, none) 77).2).2 := rfl
  have hok := tokDec_Ok (rBytes bs (0, none) 77).2 raw
  obtain ⟨⟨E, T⟩, hET⟩ : ∃ x, tokDec (rBytes bs (0, none) 77).2 = x := ⟨_, rfl⟩
  rw [hET] at hDE hrt hT hok
  dsimp only at hDE hrt hT hok
  obtain ⟨s3, hs3⟩ : ∃ x, (rBytes bs (0, none) 77).1 = x := ⟨_, rfl⟩
  rw [hs3] at h3 hrt
  have HDE := Lib.hid hDE
  have HRT := Lib.hid hrt
  have HT := Lib.hid hT
  have HOK := Lib.hid hok
  have H3 := Lib.hid h3
  have R3 := Lib.hid r3
  have Q3 := Lib.hid q3
  have BL3 := Lib.hid bl3
  clear hDE hrt hT hok h3 r3 q3 bl3 hET hs3 raw hraw own3 rd3 g3 H2 R2 Q2 BL2
  go_wp2_with fail
  refine HDE.out.mono ?_
  rintro e w4 ⟨cav, er, rfl, own4, her, b4⟩
  obtain ⟨Ac, nc, cc, rfl, enc, ncc, mcc, rdc⟩ := OwnC.sl own4
  have h4 := H3.out.below b4
  have r4 := R3.out.below b4 R3.out.lt
  have q4 := Q3.out.below b4 Q3.out.lt
  have bl4 := BL3.out.trans (b4.mono BL3.out.size)
  have own4' : OwnC w4 w.heap.size (.slice Ac nc cc) T.2.1 := OwnC.mono own4 BL3.out.size
  have lV := tokv_len T.1 (.slice Ac nc cc) T.2.2 HOK.out.1.2.2.1
  have oV := tokv_one T.1 (.slice Ac nc cc) rfl T.2.2
  have hset := req_tok 0 T (.slice Ac nc cc) (.slice none 0 0) HOK.out.1.2.2.1
  obtain ⟨V, hV⟩ : ∃ V, tokv T.1 (.slice Ac nc cc) T.2.2 = V := ⟨_, rfl⟩
  rw [hV] at lV oV hset ⊢
  have q4' : Blk w4 G5 32 ((#[.int .i64 0, .int .u32 0, .slice none 0 0, .int .u8 0, .int .u8 0, .int .u8 0, .int .u8 0, .int .u8 0, .int .u8 0, .int .u8 0, .int .u8 0, .int .u8 0, .int .u8 0, .int .u8 0, .int .u8 0, .int .u8 0, .int .u8 0, .int .u8 0, .int .u8 0, .int .u8 0, .int .u8 0, .int .u8 0, .int .u8 0, .int .u8 0, .int .u8 0, .int .u8 0, .int .u8 0, .int .u8 0, .int .u8 0, .int .u8 0, .int .u8 0, .int .u8 0, .int .u8 0, .int .u8 0, .int .u8 0, .int .i64 0, .int .i64 0, .int .i64 0, .int .i64 0, .int .i64 0, .int .u32 0, .int .u64 0, .int .u64 0, .int .u32 0, .int .u32 0, .int .u32 0, .int .u64 0, .slice none 0 0] : Array Value).toList).toArray := q4
  obtain ⟨ZR, hZR⟩ : ∃ Z, ((#[.int .i64 0, .int .u32 0, .slice none 0 0, .int .u8 0, .int .u8 0, .int .u8 0, .int .u8 0, .int .u8 0, .int .u8 0, .int .u8 0, .int .u8 0, .int .u8 0, .int .u8 0, .int .u8 0, .int .u8 0, .int .u8 0, .int .u8 0, .int .u8 0, .int .u8 0, .int .u8 0, .int .u8 0, .int .u8 0, .int .u8 0, .int .u8 0, .int .u8 0, .int .u8 0, .int .u8 0, .int .u8 0, .int .u8 0, .int .u8 0, .int .u8 0, .int .u8 0, .int .u8 0, .int .u8 0, .int .u8 0, .int .i64 0, .int .i64 0, .int .i64 0, .int .i64 0, .int .i64 0, .int .u32 0, .int .u64 0, .int .u64 0, .int .u32 0, .int .u32 0, .int .u32 0, .int .u64 0, .slice none 0 0] : Array Value).toList) = Z := ⟨_, rfl⟩
  have lZ : ZR.length = 48 := by rw [← hZR]; rfl
  rw [hZR] at q4' hset
  have TH := Lib.hid (show w4.there G5 1 V.toArray.size by rw [List.size_toArray, lV]; exact there_blk q4' 1 34 (by rw [lZ]; decide))
  have SC := Lib.hid (Blk.setCells V 1 w4 ZR q4' (by rw [lZ, lV]; decide))
  rw [hset] at SC
  have IV := Lib.hid (show (Tryd.prog.info? 29).map (·.size) = some V.toArray.size by rw [List.size_toArray, lV]; exact Tryd.tok_info)
  have OV := Lib.hid (all_oneCell_toArray oV)
  have gsc := grown_setCells G5 V 1 w4
  have H5 := Lib.hid (h4.kept gsc q4 (by decide) (by decide) (by omega))
  have O5 := Lib.hid (show OwnC (w4.setCells G5 1 V) w.heap.size (.slice Ac nc cc) T.2.1 from World.ownsRow.kept own4' gsc (.inr (own_blk_ne own4' q4 (by decide))))
  have R5 := Lib.hid (r4.grown gsc (by simp; omega))
  have BL5 := Lib.hid (adv bl4 gsc (by omega) q4.lt)
  have HER := Lib.hid her
  clear h4 r4 q4 q4' bl4 own4 own4' lV oV hset hV hZR lZ gsc her rdc enc b4 H3 R3 Q3 BL3 HDE
  go_upto_region 5 with (refine wpList_store_mid rfl 29 (.tmp 20) (.tmp 18) rfl G5 1 V.toArray rfl rfl TH.out IV.out OV.out ?_)
  obtain ⟨w5, hw5⟩ : ∃ x, x = w4.setCells G5 1 V := ⟨_, rfl⟩
  rw [← hw5] at SC H5 O5 R5 BL5 ⊢
  have hgG : g < G5 := hg1
  clear hw5 TH
  have RTH : Hid (reqTok bs = if E = none then s3 else rRefuse s3 s3.1 12) := HRT
  go_cut [22] (fun s22 wx => s22 = .bool E.isSome ∧ wx = w5)
  case first =>
    cases E with
    | none =>
      have he : er = .nilIface := HER.out
      subst he
      go_wp2
      go_meet
      case rel => exact ⟨rfl, rfl⟩
    | some x =>
      obtain ⟨hh, he, -, -⟩ := HER.out
      subst he
      go_wp2
      go_meet
      case rel => exact ⟨rfl, rfl⟩
  case rest =>
    obtain ⟨rfl, rfl⟩ := hcut
    obtain ⟨w5', rfl⟩ : ∃ x, x = wc := ⟨_, rfl⟩
    go_upto_if 22 with (fail)
    go_cut [] (fun wx => Hid (Rd wx B g bs (reqTok bs)) ∧ Hid (OwnC wx w.heap.size (.slice Ac nc cc) T.2.1) ∧ Hid (Blk wx G5 32 (reqv (req0 T 0) (.slice Ac nc cc) (.slice none 0 0)).toArray) ∧ Hid (Blk wx w.heap.size 32 #[.int .i64 0, .int .u32 0, .slice none 0 0, .int .u8 0, .int .u8 0, .int .u8 0, .int .u8 0, .int .u8 0, .int .u8 0, .int .u8 0, .int .u8 0, .int .u8 0, .int .u8 0, .int .u8 0, .int .u8 0, .int .u8 0, .int .u8 0, .int .u8 0, .int .u8 0, .int .u8 0, .int .u8 0, .int .u8 0, .int .u8 0, .int .u8 0, .int .u8 0, .int .u8 0, .int .u8 0, .int .u8 0, .int .u8 0, .int .u8 0, .int .u8 0, .int .u8 0, .int .u8 0, .int .u8 0, .int .u8 0, .int .i64 0, .int .i64 0, .int .i64 0, .int .i64 0, .int .i64 0, .int .u32 0, .int .u64 0, .int .u64 0, .int .u32 0, .int .u32 0, .int .u32 0, .int .u64 0, .slice none 0 0]) ∧ Hid (Below w.heap.size w wx))
    case first =>
      cases E with
      | none =>
        rw [if_pos rfl] at RTH
        go_wp2
        go_meet
        case rel => exact ⟨by rw [RTH.out]; exact H5.out, O5.out, SC.out, R5.out, BL5.out⟩
      | some x =>
        rw [if_neg (by simp)] at RTH
        go_wp2_with fail
        refine (reader_fail B g bs s3 12 w5' H5.out (by decide)).mono ?_
        rintro e w6 ⟨rfl, h6, g6⟩
        have H6 := Lib.hid h6
        have O6 := Lib.hid (show OwnC w6 w.heap.size (.slice Ac nc cc) T.2.1 from World.ownsRow.kept O5.out g6 (.inr (fun e => by
          obtain ⟨A', n', c', p', hgb, -⟩ := H5.out
          exact own_blk_ne O5.out hgb (by decide) e)))
        have Q6 := Lib.hid (SC.out.grown g6 (by simp; omega))
        have R6 := Lib.hid (R5.out.grown g6 (by simp; omega))
        have BL6 := Lib.hid (adv BL5.out g6 (by omega) H5.out.lt)
        clear h6 g6
        go_wp2
        go_meet
        case rel => exact ⟨by rw [RTH.out]; exact H6.out, O6.out, Q6.out, R6.out, BL6.out⟩
    case rest =>
      obtain ⟨H6, O6, Q6, R6, BL6⟩ := hcut
      clear H5 O5 SC R5 BL5
      obtain ⟨w6, rfl⟩ : ∃ x, x = wc := ⟨_, rfl⟩
      go_wp2_with fail
      refine (reader_number B g bs (reqTok bs) 1 w6 H6.out HB.out).mono ?_
      rintro e w7 ⟨rfl, h7, g7⟩
      have hkl := rNum_lt bs (reqTok bs) 1 HB.out
      have hgo := reqDecS_go bs
      have e1 : sizeN 1 = 1 := rfl
      rw [e1] at h7 ⊢
      clear e1
      obtain ⟨⟨s7, k⟩, hk⟩ : ∃ x, rNum bs (reqTok bs) 1 = x := ⟨_, rfl⟩
      rw [hk] at h7 hkl ⊢
      dsimp only at h7 hkl ⊢
      have hk256 : k < 256 := Nat.lt_of_lt_of_eq hkl (by decide)
      have kw : IntKind.i64.wrap (k : Int) = k := IntWalk.i64_in _ (by omega)
      have HGO := Lib.hid (hgo s7 k hk)
      have q7 := Q6.out.grown g7 (by simp; omega)
      have r7 := R6.out.grown g7 (by simp; omega)
      have bl7 := adv BL6.out g7 (by omega) H6.out.lt
      have o7 : OwnC w7 w.heap.size (.slice Ac nc cc) T.2.1 := World.ownsRow.kept O6.out g7 (.inr (fun e => by
        obtain ⟨A', n', c', p', hgb, -⟩ := H6.out
        exact own_blk_ne O6.out hgb (by decide) e))
      have c70 := q7.cell 0
      rw [show (reqv (req0 T 0) (.slice Ac nc cc) (.slice none 0 0)).toArray[0]? = some (.int .i64 0) from rfl] at c70
      have f70 := q7.frozen 0
      have q8 := q7.set_ 0 (.int .i64 (k : Int))
      rw [req_op T (.slice Ac nc cc) (.slice none 0 0) k] at q8
      have hset := only_setCell (p := ⟨G5, 0, none⟩) (World.grownBy.refl w7 (some G5)) (.inl rfl) (.int .i64 (k : Int))
      have H8 := Lib.hid (h7.kept hset q7 (by decide) (by decide) (by omega))
      have O8 := Lib.hid (show OwnC (w7.setCell ⟨G5, 0, none⟩ (.int .i64 (k : Int))) w.heap.size (.slice Ac nc cc) T.2.1 from World.ownsRow.kept o7 hset (.inr (own_blk_ne o7 q7 (by decide))))
      have R8 := Lib.hid (r7.grown hset (by simp; omega))
      have BL8 := Lib.hid (adv bl7 hset (by omega) q7.lt)
      have Q8 := Lib.hid q8
      have hGs := q8.lt
      clear h7 g7 hkl hgo hk q7 r7 bl7 o7 q8 hset H6 O6 Q6 R6 BL6
      go_upto_region 8 with (fail)
      obtain ⟨w8, hw8⟩ : ∃ x, x = w7.setCell ⟨G5, 0, none⟩ (.int .i64 (k : Int)) := ⟨_, rfl⟩
      rw [← hw8] at H8 O8 R8 BL8 Q8 hGs ⊢
      clear hw8 c70 f70
      have fc := request_fields G5 _ (k : Int) w8 Q8.out rfl
      obtain ⟨bb, hbb⟩ : ∃ b, (fieldsOf (k : Int)).isSome = b := ⟨_, rfl⟩
      rw [hbb] at fc HGO
      have HBB := Lib.hid hbb
      have FC := Lib.hid fc
      clear fc hbb
      go_wp2_with fail
      refine FC.out.mono ?_
      rintro e w9 ⟨lv, rfl, ownF, b9⟩
      obtain ⟨Al, nl, cl, rfl, enl, ncl, -, -⟩ := OwnF.sl ownF
      have H9 := Lib.hid (H8.out.below b9)
      have O9 := Lib.hid (O8.out.kept b9)
      have Q9 := Lib.hid (Q8.out.below b9 Q8.out.lt)
      have R9 := Lib.hid (R8.out.below b9 R8.out.lt)
      have BL9 := Lib.hid (BL8.out.trans (b9.mono BL8.out.size))
      have F9 := Lib.hid ownF
      have EN := Lib.hid enl
      have h89 : w.heap.size ≤ w8.heap.size := BL8.out.size
      clear ownF b9 enl H8 O8 Q8 R8 BL8 FC
      go_upto_if 34 with (fail)
      obtain ⟨fl, hfl⟩ : ∃ l, (fieldsOf (k : Int)).getD [] = l := ⟨_, rfl⟩
      obtain ⟨s9, hs9⟩ : ∃ s, (if bb then s7 else rRefuse s7 s7.1 12) = s := ⟨_, rfl⟩
      rw [hfl, hs9] at HGO
      rw [hfl] at F9 EN
      have hfl4 : fl.length ≤ 4 ∧ ∀ f ∈ fl, IsFld f := by
        cases hf : fieldsOf (k : Int) with
        | none => rw [hf] at hfl; subst hfl; simp
        | some l2 => rw [hf] at hfl; obtain rfl : l2 = fl := hfl; exact ⟨(fields_len _ _ hf).2.2, fun f hm => isFld _ _ hf f hm⟩
      have HS9 := Lib.hid hs9
      have HFL := Lib.hid hfl4
      clear hfl hs9 hfl4
      go_cut [] (fun wx => Hid (Rd wx B g bs s9) ∧ Hid (OwnC wx w.heap.size (.slice Ac nc cc) T.2.1) ∧ Hid (OwnF wx w8.heap.size G5 (.slice Al nl cl) fl) ∧ Hid (Blk wx G5 32 (reqv (req0 T (k : Int)) (.slice Ac nc cc) (.slice none 0 0)).toArray) ∧ Hid (Blk wx w.heap.size 32 #[.int .i64 0, .int .u32 0, .slice none 0 0, .int .u8 0, .int .u8 0, .int .u8 0, .int .u8 0, .int .u8 0, .int .u8 0, .int .u8 0, .int .u8 0, .int .u8 0, .int .u8 0, .int .u8 0, .int .u8 0, .int .u8 0, .int .u8 0, .int .u8 0, .int .u8 0, .int .u8 0, .int .u8 0, .int .u8 0, .int .u8 0, .int .u8 0, .int .u8 0, .int .u8 0, .int .u8 0, .int .u8 0, .int .u8 0, .int .u8 0, .int .u8 0, .int .u8 0, .int .u8 0, .int .u8 0, .int .u8 0, .int .i64 0, .int .i64 0, .int .i64 0, .int .i64 0, .int .i64 0, .int .u32 0, .int .u64 0, .int .u64 0, .int .u32 0, .int .u32 0, .int .u32 0, .int .u64 0, .slice none 0 0]) ∧ Hid (Below w.heap.size w wx))
      case first =>
        cases bb with
        | true =>
          have h9 := HS9.out
          rw [if_pos rfl] at h9
          subst h9
          go_wp2
          go_meet
          case rel => exact ⟨H9.out, O9.out, F9.out, Q9.out, R9.out, BL9.out⟩
        | false =>
          have h9 := HS9.out
          rw [if_neg (by simp)] at h9
          subst h9
          go_wp2_with fail
          refine (reader_fail B g bs s7 12 w9 H9.out (by decide)).mono ?_
          rintro e wa ⟨rfl, ha, ga⟩
          have Ha := Lib.hid ha
          have Oa := Lib.hid (show OwnC wa w.heap.size (.slice Ac nc cc) T.2.1 from World.ownsRow.kept O9.out ga (.inr (fun e => by
            obtain ⟨A', n', c', p', hgb, -⟩ := H9.out
            exact own_blk_ne O9.out hgb (by decide) e)))
          have Fa := Lib.hid (show OwnF wa w8.heap.size G5 (.slice Al nl cl) fl from World.ownsRow.kept F9.out ga (.inr (fun e => by
            obtain ⟨A', n', c', p', hgb, -⟩ := H9.out
            exact own_blk_ne F9.out hgb (by decide) e)))
          have Qa := Lib.hid (Q9.out.grown ga (by simp; omega))
          have Ra := Lib.hid (R9.out.grown ga (by simp; omega))
          have BLa := Lib.hid (adv BL9.out ga (by omega) H9.out.lt)
          clear ha ga
          go_wp2
          go_meet
          case rel => exact ⟨Ha.out, Oa.out, Fa.out, Qa.out, Ra.out, BLa.out⟩
      case rest =>
        obtain ⟨Ha, Oa, Fa, Qa, Ra, BLa⟩ := hcut
        clear H9 O9 F9 Q9 R9 BL9
        obtain ⟨wa, rfl⟩ : ∃ x, x = wc := ⟨_, rfl⟩
        go_upto_block 0 with fail
        go_cut [] (fun wx => ∃ (s : RSt) (R : Req) (lv : Value), Hid ((s, R) = reqDecS bs) ∧ Hid R.Fine ∧ Hid (R.cavs = T.2.1) ∧ Hid (Rd wx B g bs s) ∧ Hid (OwnC wx w.heap.size (.slice Ac nc cc) T.2.1) ∧ Hid (OwnB wx w.heap.size lv R.leaf) ∧ Hid (Blk wx G5 32 (reqv R (.slice Ac nc cc) lv).toArray) ∧ Hid (Blk wx w.heap.size 32 #[.int .i64 0, .int .u32 0, .slice none 0 0, .int .u8 0, .int .u8 0, .int .u8 0, .int .u8 0, .int .u8 0, .int .u8 0, .int .u8 0, .int .u8 0, .int .u8 0, .int .u8 0, .int .u8 0, .int .u8 0, .int .u8 0, .int .u8 0, .int .u8 0, .int .u8 0, .int .u8 0, .int .u8 0, .int .u8 0, .int .u8 0, .int .u8 0, .int .u8 0, .int .u8 0, .int .u8 0, .int .u8 0, .int .u8 0, .int .u8 0, .int .u8 0, .int .u8 0, .int .u8 0, .int .u8 0, .int .u8 0, .int .i64 0, .int .i64 0, .int .i64 0, .int .i64 0, .int .i64 0, .int .u32 0, .int .u64 0, .int .u64 0, .int .u32 0, .int .u32 0, .int .u32 0, .int .u64 0, .slice none 0 0]) ∧ Hid (Below w.heap.size w wx))
        case first =>
          go_wp2_with fail
          have hnl : nl = fl.length := EN.out
          subst hnl
          go_loopw [39] (fun i wr => ∃ (j : Nat) (s : RSt) (R : Req) (lv : Value), j ≤ fl.length ∧ i = .int .i64 j ∧ Hid (reqGo bs (fl.drop j) s R = reqDecS bs) ∧ Hid R.Fine ∧ Hid (R.cavs = T.2.1) ∧ Hid (Rd wr B g bs s) ∧ Hid (OwnC wr w.heap.size (.slice Ac nc cc) T.2.1) ∧ Hid (OwnB wr w.heap.size lv R.leaf) ∧ Hid (OwnF wr w8.heap.size G5 (.slice Al fl.length cl) fl) ∧ Hid (Blk wr G5 32 (reqv R (.slice Ac nc cc) lv).toArray) ∧ Hid (Blk wr w.heap.size 32 #[.int .i64 0, .int .u32 0, .slice none 0 0, .int .u8 0, .int .u8 0, .int .u8 0, .int .u8 0, .int .u8 0, .int .u8 0, .int .u8 0, .int .u8 0, .int .u8 0, .int .u8 0, .int .u8 0, .int .u8 0, .int .u8 0, .int .u8 0, .int .u8 0, .int .u8 0, .int .u8 0, .int .u8 0, .int .u8 0, .int .u8 0, .int .u8 0, .int .u8 0, .int .u8 0, .int .u8 0, .int .u8 0, .int .u8 0, .int .u8 0, .int .u8 0, .int .u8 0, .int .u8 0, .int .u8 0, .int .u8 0, .int .i64 0, .int .i64 0, .int .i64 0, .int .i64 0, .int .i64 0, .int .u32 0, .int .u64 0, .int .u64 0, .int .u32 0, .int .u32 0, .int .u32 0, .int .u64 0, .slice none 0 0]) ∧ Hid (Below w.heap.size w wr)) (fun i _ => fl.length - (intOf i).toNat)
          case atStart =>
            refine ⟨0, s9, req0 T (k : Int), .slice none 0 0, by omega, rfl, ?_, ?_, rfl, Ha.out, Oa.out, OwnB.nil _ _, Fa.out, Qa.out, Ra.out, BLa.out⟩
            · show _ = _
              rw [HGO.out, show reqT bs = T from HT.out]
              rfl
            · exact ⟨HOK.out.1.2.2.1, HOK.out.1.2.2.2, HOK.out.1.1, HOK.out.1.2.1, HOK.out.2, by simp [req0], by simp [req0]⟩
          case round =>
            clear Ha Oa Fa Qa Ra BLa
            obtain ⟨j, s, R, lv, hj, rfl, hgo, hfine, hcav, hrd, ho, hlo, hf, hq, hz, hbl⟩ := hrel
            have fl4 : fl.length ≤ 4 := HFL.out.1
            by_cases hjl : j < fl.length
            · have qk : (j : Int) < fl.length := by omega
              obtain ⟨f, hx⟩ : ∃ f, fl[j]? = some f := ⟨_, List.getElem?_eq_getElem hjl⟩
              have q := fldvs_at G5 fl j f hx
              have HF := HFL.out.2 f (List.mem_of_getElem? hx)
              have rdf : Reads wr wr.heap.size 4 Al fl.length (fldvs G5 fl) := Reads.of_own hf.out
              obtain ⟨fbk, fo, hAl, hab, hcell⟩ := rdf.mid (by omega) (by omega)
              subst hAl
              have Hx := Lib.hid hx
              have HK := isFld_kinds HF
              clear hx rdf
              rcases HK with ⟨f1, f2⟩ | ⟨f1, f2⟩ | ⟨f1, f2⟩ | rfl
              · have m0 := hcell (j * 4 + 0) _ ((q 0 (by omega)).trans (by unfold fldv; rw [if_pos f1]; rfl))
                have m1 := hcell (j * 4 + 1) _ ((q 1 (by omega)).trans (by unfold fldv; rw [if_pos f1]; rfl))
                have m2 := hcell (j * 4 + 2) _ ((q 2 (by omega)).trans (by unfold fldv; rw [if_pos f1]; rfl))
                have m3 := hcell (j * 4 + 3) _ ((q 3 (by omega)).trans (by unfold fldv; rw [if_pos f1]; rfl))
                clear q hcell
                rw [f2] at m0
                simp only [← Nat.add_assoc, Nat.add_zero] at m0 m1 m2 m3
                have hstep := reqGo_num bs fl j f s R _ hgo.out Hx.out (by rw [f1]; decide)
                have hput := fld_put R (.slice Ac nc cc) lv hfine.out.tag f HF (by rw [f1]; decide)
                obtain ⟨vx, hvx⟩ := fld_at R (.slice Ac nc cc) lv hfine.out.tag f HF (by rw [f1]; decide)
                obtain ⟨fb, fq, x⟩ := f
                simp only at f1 f2 m0 m1 m2 m3 hstep hput hvx
                subst f1 f2
                have nl' := rNum_lt bs s 1 HB.out
                have RN := fun w h => reader_number B g bs s 1 w h HB.out
                have es : sizeN 1 = 1 := rfl
                rw [es] at RN
                clear es
                obtain ⟨⟨s', nn⟩, hnn⟩ : ∃ x, rNum bs s 1 = x := ⟨_, rfl⟩
                simp only [hnn] at RN nl' hstep
                have nlt : nn < 256 := Nat.lt_of_lt_of_eq nl' (by decide)
                have nw : IntKind.i64.wrap (nn : Int) = nn := IntWalk.i64_in _ (by omega)
                have hp2 := hput nn
                rw [show fldN (1, 1, x) nn = .int .i64 (nn : Int) by simp [fldN]] at hp2
                have HRN := Lib.hid RN
                have HSTEP := Lib.hid hstep
                have HPUT := Lib.hid hp2
                have HVX := Lib.hid hvx
                clear RN hstep hput hp2 hvx nl' hnn
                go_upto_region 16 with (fail)
                obtain ⟨wf, hwf⟩ : ∃ u, u = wr.alloc (.cells #[.int .i64 1, .pointer (some ⟨G5, x, none⟩), .pointer none, .pointer none] 82) := ⟨_, rfl⟩
                have bwf : Below wr.heap.size wr wf := by rw [hwf]; exact (Below.refl _ _).alloc (Nat.le_refl _) _
                have ff : Blk wf wr.heap.size 82 #[.int .i64 1, .pointer (some ⟨G5, x, none⟩), .pointer none, .pointer none] := by rw [hwf]; exact Blk.new _ _ _
                rw [← hwf]
                have Rf := hrd.out.below bwf
                have Qf := hq.out.below bwf hq.out.lt
                have Cf := ho.out.kept bwf
                have Lf := hlo.out.kept bwf
                have Ff : OwnF wf w8.heap.size G5 (.slice (some ⟨fbk, fo, none⟩) fl.length cl) fl := OwnF.kept hf.out bwf
                have Zf := hz.out.below bwf hz.out.lt
                have BLf := hbl.out.trans (bwf.mono hbl.out.size)
                have hwg : g < wr.heap.size := hrd.out.lt
                clear hwf bwf hrd hq ho hlo hf hz hbl m0 m1 m2 m3
                have k0 := ff.cell 0
                have kq := ff.cell 1
                rw [show (#[.int .i64 1, .pointer (some ⟨G5, x, none⟩), .pointer none, .pointer none] : Array Value)[0]? = some (.int .i64 1) from rfl] at k0
                rw [show (#[.int .i64 1, .pointer (some ⟨G5, x, none⟩), .pointer none, .pointer none] : Array Value)[1]? = some (.pointer (some ⟨G5, x, none⟩)) from rfl] at kq
                obtain ⟨S, HS⟩ : ∃ S : World → Prop, Hid (∀ w', S w' = (w'.cell? ⟨wr.heap.size, 0, none⟩ = some (.int .i64 1) ∧ w'.cell? ⟨wr.heap.size, 1, none⟩ = some (.pointer (some ⟨G5, x, none⟩)))) := ⟨_, fun _ => rfl⟩
                refine wp_region_seq S 8 [(0, false), (1, false), (2, false), (3, false), (4, false), (5, true), (6, false), (7, false), (8, true)] (by kernel_rfl) rfl (by kernel_rfl) (by kernel_rfl) (by kernel_rfl) (fun _ _ d _ _ h => by cases d <;> exact h) ((HS.out _).mpr ⟨k0, kq⟩) ?_
                repeat (refine wpSeq_read rfl rfl ⟨?_, fun w1 hS => ?_, ?_⟩; rotate_left; (focus (rw [HS.out] at hS; go_split_ands; go_simp; (try go_bits); try rfl)); simp only [Act.put, List.setIfInBounds_toArray, List.set_cons_zero, List.set_cons_succ])
                refine wpSeq_write rfl rfl ?_
                go_simp
                refine (HRN.out wf.drew Rf).mono ?_
                rintro e wb ⟨rfl, hbb, gb⟩
                have fb := (show Blk wf.drew wr.heap.size 82 _ from ff).grown gb (by simp; omega)
                have l0 := fb.cell 0
                have lq := fb.cell 1
                rw [show (#[.int .i64 1, .pointer (some ⟨G5, x, none⟩), .pointer none, .pointer none] : Array Value)[0]? = some (.int .i64 1) from rfl] at l0
                rw [show (#[.int .i64 1, .pointer (some ⟨G5, x, none⟩), .pointer none, .pointer none] : Array Value)[1]? = some (.pointer (some ⟨G5, x, none⟩)) from rfl] at lq
                refine ⟨(HS.out _).mpr ⟨l0, lq⟩, ?_⟩
                try simp only [Act.put, List.setIfInBounds_toArray, List.set_cons_zero, List.set_cons_succ]
                repeat (refine wpSeq_read rfl rfl ⟨?_, fun w1 hS => ?_, ?_⟩; rotate_left; (focus (rw [HS.out] at hS; go_split_ands; go_simp; (try go_bits); try rfl)); simp only [Act.put, List.setIfInBounds_toArray, List.set_cons_zero, List.set_cons_succ])
                have ne1 : ∀ {base : Nat} {e : TypeId} {sz m : Nat} {v : Value} {xs : List Value}, wf.drew.ownsRow base e sz v m xs → e ≠ 118 → v.ownBlock ≠ some g := fun h he => by
                  obtain ⟨A', n', c', p', hgb, -⟩ := Rf
                  exact own_blk_ne h hgb he
                have Qb := (show Blk wf.drew G5 32 _ from Qf).grown gb (by simp; omega)
                have Cb : OwnC wb w.heap.size (.slice Ac nc cc) T.2.1 := World.ownsRow.kept (show OwnC wf.drew _ _ _ from Cf) gb (.inr (ne1 (show OwnC wf.drew _ _ _ from Cf) (by decide)))
                have Lb : OwnB wb w.heap.size lv R.leaf := World.ownsRow.kept (show OwnB wf.drew _ _ _ from Lf) gb (.inr (ne1 (show OwnB wf.drew _ _ _ from Lf) (by decide)))
                have Fb : OwnF wb w8.heap.size G5 (.slice (some ⟨fbk, fo, none⟩) fl.length cl) fl := World.ownsRow.kept (show OwnF wf.drew _ _ _ _ from Ff) gb (.inr (ne1 (show OwnF wf.drew _ _ _ _ from Ff) (by decide)))
                have Zb := (show Blk wf.drew w.heap.size 32 _ from Zf).grown gb (by simp; omega)
                have hgw : g < wf.heap.size := Rf.lt
                have BLb := adv (show Below w.heap.size w wf.drew from BLf.drew) gb (by omega) hgw
                have qx := Qb.cell x
                rw [List.getElem?_toArray, HVX.out] at qx
                have fx := Qb.frozen x
                refine wpSeq_write rfl rfl ?_
                go_simp
                refine wpSeq_nil ?_
                have gset := only_setCell (p := ⟨G5, x, none⟩) (World.grownBy.refl wb (some G5)) (.inl rfl) (.int .i64 (nn : Int))
                have Qc := Qb.set_ x (.int .i64 (nn : Int))
                rw [HPUT.out] at Qc
                have Q9' := Lib.hid Qc
                have R9' := Lib.hid (hbb.kept gset Qb (by decide) (by decide) (by omega))
                have C9' := Lib.hid (show OwnC (wb.setCell ⟨G5, x, none⟩ (.int .i64 (nn : Int))) w.heap.size (.slice Ac nc cc) T.2.1 from World.ownsRow.kept Cb gset (.inr (own_blk_ne Cb Qb (by decide))))
                have L9' := Lib.hid (show OwnB (wb.setCell ⟨G5, x, none⟩ (.int .i64 (nn : Int))) w.heap.size lv R.leaf from World.ownsRow.kept Lb gset (.inr (own_blk_ne Lb Qb (by decide))))
                have F9' := Lib.hid (show OwnF (wb.setCell ⟨G5, x, none⟩ (.int .i64 (nn : Int))) w8.heap.size G5 (.slice (some ⟨fbk, fo, none⟩) fl.length cl) fl from World.ownsRow.kept Fb gset (.inr (own_blk_ne Fb Qb (by decide))))
                have Z9' := Lib.hid (Zb.grown gset (by simp; omega))
                have BL9' := Lib.hid (adv BLb gset (by omega) Qb.lt)
                clear Qc hbb Qb Cb Lb Fb Zb BLb gset Rf Qf Cf Lf Ff Zf BLf ff fb ne1 gb qx fx l0 lq k0 kq
                obtain ⟨-, p2, -, p4, -⟩ := put_tok R x nn
                have HP2 := Lib.hid p2
                have HP4 := Lib.hid p4
                clear p2 p4
                go_wp2
                go_roundw
                case rel => exact ⟨j + 1, s', R.put x nn, lv, by omega, by go_num, HSTEP.out, hfine.out.put x nn, by rw [HP2.out]; exact hcav.out, R9'.out, C9'.out, by rw [HP4.out]; exact L9'.out, F9'.out, Q9'.out, Z9'.out, BL9'.out⟩
                case measure => simp [intOf]; omega
              · have m0 := hcell (j * 4 + 0) _ ((q 0 (by omega)).trans (by unfold fldv; rw [if_neg (by rw [f1]; decide), if_pos f1]; rfl))
                have m1 := hcell (j * 4 + 1) _ ((q 1 (by omega)).trans (by unfold fldv; rw [if_neg (by rw [f1]; decide), if_pos f1]; rfl))
                have m2 := hcell (j * 4 + 2) _ ((q 2 (by omega)).trans (by unfold fldv; rw [if_neg (by rw [f1]; decide), if_pos f1]; rfl))
                have m3 := hcell (j * 4 + 3) _ ((q 3 (by omega)).trans (by unfold fldv; rw [if_neg (by rw [f1]; decide), if_pos f1]; rfl))
                clear q hcell
                rw [f2] at m0
                simp only [← Nat.add_assoc, Nat.add_zero] at m0 m1 m2 m3
                have hstep := reqGo_num bs fl j f s R _ hgo.out Hx.out (by rw [f1]; decide)
                have hput := fld_put R (.slice Ac nc cc) lv hfine.out.tag f HF (by rw [f1]; decide)
                obtain ⟨vx, hvx⟩ := fld_at R (.slice Ac nc cc) lv hfine.out.tag f HF (by rw [f1]; decide)
                obtain ⟨fb, fq, x⟩ := f
                simp only at f1 f2 m0 m1 m2 m3 hstep hput hvx
                subst f1 f2
                have nl' := rNum_lt bs s 4 HB.out
                have RN := fun w h => reader_number B g bs s 4 w h HB.out
                have es : sizeN 4 = 4 := rfl
                rw [es] at RN
                clear es
                obtain ⟨⟨s', nn⟩, hnn⟩ : ∃ x, rNum bs s 4 = x := ⟨_, rfl⟩
                simp only [hnn] at RN nl' hstep
                have nlt : nn < 4294967296 := Nat.lt_of_lt_of_eq nl' (by decide)
                have nw : IntKind.u32.wrap (nn : Int) = nn := by rw [IntKind.wrap_u32]; omega
                have hp2 := hput nn
                rw [show fldN (4, 2, x) nn = .int .u32 (nn : Int) by simp [fldN]] at hp2
                have HRN := Lib.hid RN
                have HSTEP := Lib.hid hstep
                have HPUT := Lib.hid hp2
                have HVX := Lib.hid hvx
                clear RN hstep hput hp2 hvx nl' hnn
                go_upto_region 18 with (fail)
                obtain ⟨wf, hwf⟩ : ∃ u, u = wr.alloc (.cells #[.int .i64 4, .pointer none, .pointer (some ⟨G5, x, none⟩), .pointer none] 82) := ⟨_, rfl⟩
                have bwf : Below wr.heap.size wr wf := by rw [hwf]; exact (Below.refl _ _).alloc (Nat.le_refl _) _
                have ff : Blk wf wr.heap.size 82 #[.int .i64 4, .pointer none, .pointer (some ⟨G5, x, none⟩), .pointer none] := by rw [hwf]; exact Blk.new _ _ _
                rw [← hwf]
                have Rf := hrd.out.below bwf
                have Qf := hq.out.below bwf hq.out.lt
                have Cf := ho.out.kept bwf
                have Lf := hlo.out.kept bwf
                have Ff : OwnF wf w8.heap.size G5 (.slice (some ⟨fbk, fo, none⟩) fl.length cl) fl := OwnF.kept hf.out bwf
                have Zf := hz.out.below bwf hz.out.lt
                have BLf := hbl.out.trans (bwf.mono hbl.out.size)
                have hwg : g < wr.heap.size := hrd.out.lt
                clear hwf bwf hrd hq ho hlo hf hz hbl m0 m1 m2 m3
                have k0 := ff.cell 0
                have kq := ff.cell 2
                rw [show (#[.int .i64 4, .pointer none, .pointer (some ⟨G5, x, none⟩), .pointer none] : Array Value)[0]? = some (.int .i64 4) from rfl] at k0
                rw [show (#[.int .i64 4, .pointer none, .pointer (some ⟨G5, x, none⟩), .pointer none] : Array Value)[2]? = some (.pointer (some ⟨G5, x, none⟩)) from rfl] at kq
                obtain ⟨S, HS⟩ : ∃ S : World → Prop, Hid (∀ w', S w' = (w'.cell? ⟨wr.heap.size, 0, none⟩ = some (.int .i64 4) ∧ w'.cell? ⟨wr.heap.size, 2, none⟩ = some (.pointer (some ⟨G5, x, none⟩)))) := ⟨_, fun _ => rfl⟩
                refine wp_region_seq S 8 [(0, false), (1, false), (2, false), (3, false), (4, false), (5, true), (6, false), (7, false), (8, true)] (by kernel_rfl) rfl (by kernel_rfl) (by kernel_rfl) (by kernel_rfl) (fun _ _ d _ _ h => by cases d <;> exact h) ((HS.out _).mpr ⟨k0, kq⟩) ?_
                repeat (refine wpSeq_read rfl rfl ⟨?_, fun w1 hS => ?_, ?_⟩; rotate_left; (focus (rw [HS.out] at hS; go_split_ands; go_simp; (try go_bits); try rfl)); simp only [Act.put, List.setIfInBounds_toArray, List.set_cons_zero, List.set_cons_succ])
                refine wpSeq_write rfl rfl ?_
                go_simp
                refine (HRN.out wf.drew Rf).mono ?_
                rintro e wb ⟨rfl, hbb, gb⟩
                have fb := (show Blk wf.drew wr.heap.size 82 _ from ff).grown gb (by simp; omega)
                have l0 := fb.cell 0
                have lq := fb.cell 2
                rw [show (#[.int .i64 4, .pointer none, .pointer (some ⟨G5, x, none⟩), .pointer none] : Array Value)[0]? = some (.int .i64 4) from rfl] at l0
                rw [show (#[.int .i64 4, .pointer none, .pointer (some ⟨G5, x, none⟩), .pointer none] : Array Value)[2]? = some (.pointer (some ⟨G5, x, none⟩)) from rfl] at lq
                refine ⟨(HS.out _).mpr ⟨l0, lq⟩, ?_⟩
                try simp only [Act.put, List.setIfInBounds_toArray, List.set_cons_zero, List.set_cons_succ]
                repeat (refine wpSeq_read rfl rfl ⟨?_, fun w1 hS => ?_, ?_⟩; rotate_left; (focus (rw [HS.out] at hS; go_split_ands; go_simp; (try go_bits); try rfl)); simp only [Act.put, List.setIfInBounds_toArray, List.set_cons_zero, List.set_cons_succ])
                have ne1 : ∀ {base : Nat} {e : TypeId} {sz m : Nat} {v : Value} {xs : List Value}, wf.drew.ownsRow base e sz v m xs → e ≠ 118 → v.ownBlock ≠ some g := fun h he => by
                  obtain ⟨A', n', c', p', hgb, -⟩ := Rf
                  exact own_blk_ne h hgb he
                have Qb := (show Blk wf.drew G5 32 _ from Qf).grown gb (by simp; omega)
                have Cb : OwnC wb w.heap.size (.slice Ac nc cc) T.2.1 := World.ownsRow.kept (show OwnC wf.drew _ _ _ from Cf) gb (.inr (ne1 (show OwnC wf.drew _ _ _ from Cf) (by decide)))
                have Lb : OwnB wb w.heap.size lv R.leaf := World.ownsRow.kept (show OwnB wf.drew _ _ _ from Lf) gb (.inr (ne1 (show OwnB wf.drew _ _ _ from Lf) (by decide)))
                have Fb : OwnF wb w8.heap.size G5 (.slice (some ⟨fbk, fo, none⟩) fl.length cl) fl := World.ownsRow.kept (show OwnF wf.drew _ _ _ _ from Ff) gb (.inr (ne1 (show OwnF wf.drew _ _ _ _ from Ff) (by decide)))
                have Zb := (show Blk wf.drew w.heap.size 32 _ from Zf).grown gb (by simp; omega)
                have hgw : g < wf.heap.size := Rf.lt
                have BLb := adv (show Below w.heap.size w wf.drew from BLf.drew) gb (by omega) hgw
                have qx := Qb.cell x
                rw [List.getElem?_toArray, HVX.out] at qx
                have fx := Qb.frozen x
                refine wpSeq_write rfl rfl ?_
                go_simp
                refine wpSeq_nil ?_
                have gset := only_setCell (p := ⟨G5, x, none⟩) (World.grownBy.refl wb (some G5)) (.inl rfl) (.int .u32 (nn : Int))
                have Qc := Qb.set_ x (.int .u32 (nn : Int))
                rw [HPUT.out] at Qc
                have Q9' := Lib.hid Qc
                have R9' := Lib.hid (hbb.kept gset Qb (by decide) (by decide) (by omega))
                have C9' := Lib.hid (show OwnC (wb.setCell ⟨G5, x, none⟩ (.int .u32 (nn : Int))) w.heap.size (.slice Ac nc cc) T.2.1 from World.ownsRow.kept Cb gset (.inr (own_blk_ne Cb Qb (by decide))))
                have L9' := Lib.hid (show OwnB (wb.setCell ⟨G5, x, none⟩ (.int .u32 (nn : Int))) w.heap.size lv R.leaf from World.ownsRow.kept Lb gset (.inr (own_blk_ne Lb Qb (by decide))))
                have F9' := Lib.hid (show OwnF (wb.setCell ⟨G5, x, none⟩ (.int .u32 (nn : Int))) w8.heap.size G5 (.slice (some ⟨fbk, fo, none⟩) fl.length cl) fl from World.ownsRow.kept Fb gset (.inr (own_blk_ne Fb Qb (by decide))))
                have Z9' := Lib.hid (Zb.grown gset (by simp; omega))
                have BL9' := Lib.hid (adv BLb gset (by omega) Qb.lt)
                clear Qc hbb Qb Cb Lb Fb Zb BLb gset Rf Qf Cf Lf Ff Zf BLf ff fb ne1 gb qx fx l0 lq k0 kq
                obtain ⟨-, p2, -, p4, -⟩ := put_tok R x nn
                have HP2 := Lib.hid p2
                have HP4 := Lib.hid p4
                clear p2 p4
                go_wp2
                go_roundw
                case rel => exact ⟨j + 1, s', R.put x nn, lv, by omega, by go_num, HSTEP.out, hfine.out.put x nn, by rw [HP2.out]; exact hcav.out, R9'.out, C9'.out, by rw [HP4.out]; exact L9'.out, F9'.out, Q9'.out, Z9'.out, BL9'.out⟩
                case measure => simp [intOf]; omega
              · have m0 := hcell (j * 4 + 0) _ ((q 0 (by omega)).trans (by unfold fldv; rw [if_neg (by rw [f1]; decide), if_neg (by rw [f1]; decide), if_pos f1]; rfl))
                have m1 := hcell (j * 4 + 1) _ ((q 1 (by omega)).trans (by unfold fldv; rw [if_neg (by rw [f1]; decide), if_neg (by rw [f1]; decide), if_pos f1]; rfl))
                have m2 := hcell (j * 4 + 2) _ ((q 2 (by omega)).trans (by unfold fldv; rw [if_neg (by rw [f1]; decide), if_neg (by rw [f1]; decide), if_pos f1]; rfl))
                have m3 := hcell (j * 4 + 3) _ ((q 3 (by omega)).trans (by unfold fldv; rw [if_neg (by rw [f1]; decide), if_neg (by rw [f1]; decide), if_pos f1]; rfl))
                clear q hcell
                rw [f2] at m0
                simp only [← Nat.add_assoc, Nat.add_zero] at m0 m1 m2 m3
                have hstep := reqGo_num bs fl j f s R _ hgo.out Hx.out (by rw [f1]; decide)
                have hput := fld_put R (.slice Ac nc cc) lv hfine.out.tag f HF (by rw [f1]; decide)
                obtain ⟨vx, hvx⟩ := fld_at R (.slice Ac nc cc) lv hfine.out.tag f HF (by rw [f1]; decide)
                obtain ⟨fb, fq, x⟩ := f
                simp only at f1 f2 m0 m1 m2 m3 hstep hput hvx
                subst f1 f2
                have nl' := rNum_lt bs s 8 HB.out
                have RN := fun w h => reader_number B g bs s 8 w h HB.out
                have es : sizeN 8 = 8 := rfl
                rw [es] at RN
                clear es
                obtain ⟨⟨s', nn⟩, hnn⟩ : ∃ x, rNum bs s 8 = x := ⟨_, rfl⟩
                simp only [hnn] at RN nl' hstep
                have nlt : nn < 18446744073709551616 := Nat.lt_of_lt_of_eq nl' (by decide)
                have nw : (0 : Nat) = 0 := rfl
                have hp2 := hput nn
                rw [show fldN (8, 3, x) nn = .int .u64 (nn : Int) by simp [fldN]] at hp2
                have HRN := Lib.hid RN
                have HSTEP := Lib.hid hstep
                have HPUT := Lib.hid hp2
                have HVX := Lib.hid hvx
                clear RN hstep hput hp2 hvx nl' hnn
                go_upto_region 20 with (fail)
                obtain ⟨wf, hwf⟩ : ∃ u, u = wr.alloc (.cells #[.int .i64 8, .pointer none, .pointer none, .pointer (some ⟨G5, x, none⟩)] 82) := ⟨_, rfl⟩
                have bwf : Below wr.heap.size wr wf := by rw [hwf]; exact (Below.refl _ _).alloc (Nat.le_refl _) _
                have ff : Blk wf wr.heap.size 82 #[.int .i64 8, .pointer none, .pointer none, .pointer (some ⟨G5, x, none⟩)] := by rw [hwf]; exact Blk.new _ _ _
                rw [← hwf]
                have Rf := hrd.out.below bwf
                have Qf := hq.out.below bwf hq.out.lt
                have Cf := ho.out.kept bwf
                have Lf := hlo.out.kept bwf
                have Ff : OwnF wf w8.heap.size G5 (.slice (some ⟨fbk, fo, none⟩) fl.length cl) fl := OwnF.kept hf.out bwf
                have Zf := hz.out.below bwf hz.out.lt
                have BLf := hbl.out.trans (bwf.mono hbl.out.size)
                have hwg : g < wr.heap.size := hrd.out.lt
                clear hwf bwf hrd hq ho hlo hf hz hbl m0 m1 m2 m3
                have k0 := ff.cell 0
                have kq := ff.cell 3
                rw [show (#[.int .i64 8, .pointer none, .pointer none, .pointer (some ⟨G5, x, none⟩)] : Array Value)[0]? = some (.int .i64 8) from rfl] at k0
                rw [show (#[.int .i64 8, .pointer none, .pointer none, .pointer (some ⟨G5, x, none⟩)] : Array Value)[3]? = some (.pointer (some ⟨G5, x, none⟩)) from rfl] at kq
                obtain ⟨S, HS⟩ : ∃ S : World → Prop, Hid (∀ w', S w' = (w'.cell? ⟨wr.heap.size, 0, none⟩ = some (.int .i64 8) ∧ w'.cell? ⟨wr.heap.size, 3, none⟩ = some (.pointer (some ⟨G5, x, none⟩)))) := ⟨_, fun _ => rfl⟩
                refine wp_region_seq S 7 [(0, false), (1, false), (2, false), (3, false), (4, false), (5, true), (6, false), (7, true)] (by kernel_rfl) rfl (by kernel_rfl) (by kernel_rfl) (by kernel_rfl) (fun _ _ d _ _ h => by cases d <;> exact h) ((HS.out _).mpr ⟨k0, kq⟩) ?_
                repeat (refine wpSeq_read rfl rfl ⟨?_, fun w1 hS => ?_, ?_⟩; rotate_left; (focus (rw [HS.out] at hS; go_split_ands; go_simp; (try go_bits); try rfl)); simp only [Act.put, List.setIfInBounds_toArray, List.set_cons_zero, List.set_cons_succ])
                refine wpSeq_write rfl rfl ?_
                go_simp
                refine (HRN.out wf.drew Rf).mono ?_
                rintro e wb ⟨rfl, hbb, gb⟩
                have fb := (show Blk wf.drew wr.heap.size 82 _ from ff).grown gb (by simp; omega)
                have l0 := fb.cell 0
                have lq := fb.cell 3
                rw [show (#[.int .i64 8, .pointer none, .pointer none, .pointer (some ⟨G5, x, none⟩)] : Array Value)[0]? = some (.int .i64 8) from rfl] at l0
                rw [show (#[.int .i64 8, .pointer none, .pointer none, .pointer (some ⟨G5, x, none⟩)] : Array Value)[3]? = some (.pointer (some ⟨G5, x, none⟩)) from rfl] at lq
                refine ⟨(HS.out _).mpr ⟨l0, lq⟩, ?_⟩
                try simp only [Act.put, List.setIfInBounds_toArray, List.set_cons_zero, List.set_cons_succ]
                repeat (refine wpSeq_read rfl rfl ⟨?_, fun w1 hS => ?_, ?_⟩; rotate_left; (focus (rw [HS.out] at hS; go_split_ands; go_simp; (try go_bits); try rfl)); simp only [Act.put, List.setIfInBounds_toArray, List.set_cons_zero, List.set_cons_succ])
                have ne1 : ∀ {base : Nat} {e : TypeId} {sz m : Nat} {v : Value} {xs : List Value}, wf.drew.ownsRow base e sz v m xs → e ≠ 118 → v.ownBlock ≠ some g := fun h he => by
                  obtain ⟨A', n', c', p', hgb, -⟩ := Rf
                  exact own_blk_ne h hgb he
                have Qb := (show Blk wf.drew G5 32 _ from Qf).grown gb (by simp; omega)
                have Cb : OwnC wb w.heap.size (.slice Ac nc cc) T.2.1 := World.ownsRow.kept (show OwnC wf.drew _ _ _ from Cf) gb (.inr (ne1 (show OwnC wf.drew _ _ _ from Cf) (by decide)))
                have Lb : OwnB wb w.heap.size lv R.leaf := World.ownsRow.kept (show OwnB wf.drew _ _ _ from Lf) gb (.inr (ne1 (show OwnB wf.drew _ _ _ from Lf) (by decide)))
                have Fb : OwnF wb w8.heap.size G5 (.slice (some ⟨fbk, fo, none⟩) fl.length cl) fl := World.ownsRow.kept (show OwnF wf.drew _ _ _ _ from Ff) gb (.inr (ne1 (show OwnF wf.drew _ _ _ _ from Ff) (by decide)))
                have Zb := (show Blk wf.drew w.heap.size 32 _ from Zf).grown gb (by simp; omega)
                have hgw : g < wf.heap.size := Rf.lt
                have BLb := adv (show Below w.heap.size w wf.drew from BLf.drew) gb (by omega) hgw
                have qx := Qb.cell x
                rw [List.getElem?_toArray, HVX.out] at qx
                have fx := Qb.frozen x
                refine wpSeq_write rfl rfl ?_
                go_simp
                refine wpSeq_nil ?_
                have gset := only_setCell (p := ⟨G5, x, none⟩) (World.grownBy.refl wb (some G5)) (.inl rfl) (.int .u64 (nn : Int))
                have Qc := Qb.set_ x (.int .u64 (nn : Int))
                rw [HPUT.out] at Qc
                have Q9' := Lib.hid Qc
                have R9' := Lib.hid (hbb.kept gset Qb (by decide) (by decide) (by omega))
                have C9' := Lib.hid (show OwnC (wb.setCell ⟨G5, x, none⟩ (.int .u64 (nn : Int))) w.heap.size (.slice Ac nc cc) T.2.1 from World.ownsRow.kept Cb gset (.inr (own_blk_ne Cb Qb (by decide))))
                have L9' := Lib.hid (show OwnB (wb.setCell ⟨G5, x, none⟩ (.int .u64 (nn : Int))) w.heap.size lv R.leaf from World.ownsRow.kept Lb gset (.inr (own_blk_ne Lb Qb (by decide))))
                have F9' := Lib.hid (show OwnF (wb.setCell ⟨G5, x, none⟩ (.int .u64 (nn : Int))) w8.heap.size G5 (.slice (some ⟨fbk, fo, none⟩) fl.length cl) fl from World.ownsRow.kept Fb gset (.inr (own_blk_ne Fb Qb (by decide))))
                have Z9' := Lib.hid (Zb.grown gset (by simp; omega))
                have BL9' := Lib.hid (adv BLb gset (by omega) Qb.lt)
                clear Qc hbb Qb Cb Lb Fb Zb BLb gset Rf Qf Cf Lf Ff Zf BLf ff fb ne1 gb qx fx l0 lq k0 kq
                obtain ⟨-, p2, -, p4, -⟩ := put_tok R x nn
                have HP2 := Lib.hid p2
                have HP4 := Lib.hid p4
                clear p2 p4
                go_wp2
                go_roundw
                case rel => exact ⟨j + 1, s', R.put x nn, lv, by omega, by go_num, HSTEP.out, hfine.out.put x nn, by rw [HP2.out]; exact hcav.out, R9'.out, C9'.out, by rw [HP4.out]; exact L9'.out, F9'.out, Q9'.out, Z9'.out, BL9'.out⟩
                case measure => simp [intOf]; omega
              · have m0 := hcell (j * 4 + 0) _ ((q 0 (by omega)).trans rfl)
                have m1 := hcell (j * 4 + 1) _ ((q 1 (by omega)).trans rfl)
                have m2 := hcell (j * 4 + 2) _ ((q 2 (by omega)).trans rfl)
                have m3 := hcell (j * 4 + 3) _ ((q 3 (by omega)).trans rfl)
                clear q hcell
                simp only [← Nat.add_assoc, Nat.add_zero] at m0 m1 m2 m3
                have hstep := reqGo_leaf bs fl j _ s R _ hgo.out Hx.out rfl
                have hlb := rBytes_lt bs s 256 HB.out
                have hll := rBytes_len bs s 256 HB.out
                have RB := fun w h => reader_bytes B g bs s 256 w h HB.out (by omega)
                obtain ⟨⟨s', lf⟩, hlf⟩ : ∃ x, rBytes bs s 256 = x := ⟨_, rfl⟩
                simp only [hlf] at RB hlb hll hstep
                have HRB := Lib.hid RB
                have HSTEP := Lib.hid hstep
                have HLB := Lib.hid hlb
                have HLL := Lib.hid hll
                clear RB hstep hlb hll hlf
                go_upto_region 14 with (fail)
                obtain ⟨wf, hwf⟩ : ∃ u, u = wr.alloc (.cells #[.int .i64 0, .pointer none, .pointer none, .pointer none] 82) := ⟨_, rfl⟩
                have bwf : Below wr.heap.size wr wf := by rw [hwf]; exact (Below.refl _ _).alloc (Nat.le_refl _) _
                rw [← hwf]
                have Rf := hrd.out.below bwf
                have Qf := hq.out.below bwf hq.out.lt
                have Cf := ho.out.kept bwf
                have Ff : OwnF wf w8.heap.size G5 (.slice (some ⟨fbk, fo, none⟩) fl.length cl) fl := OwnF.kept hf.out bwf
                have Zf := hz.out.below bwf hz.out.lt
                have BLf := hbl.out.trans (bwf.mono hbl.out.size)
                clear hwf bwf hrd hq ho hlo hf hz hbl m0 m1 m2 m3
                go_wp2_with fail
                refine (HRB.out wf Rf).mono ?_
                rintro e wb ⟨vb, rfl, ownb, hbb, gb⟩
                obtain ⟨Av, nv, cv, rfl, -, -, -⟩ := OwnB.sl ownb
                have ne1 : ∀ {base : Nat} {e : TypeId} {sz m : Nat} {v : Value} {xs : List Value}, wf.ownsRow base e sz v m xs → e ≠ 118 → v.ownBlock ≠ some g := fun h he => by
                  obtain ⟨A', n', c', p', hgb, -⟩ := Rf
                  exact own_blk_ne h hgb he
                have Qb := Qf.grown gb (by simp; omega)
                have Cb : OwnC wb w.heap.size (.slice Ac nc cc) T.2.1 := World.ownsRow.kept Cf gb (.inr (ne1 Cf (by decide)))
                have Fb : OwnF wb w8.heap.size G5 (.slice (some ⟨fbk, fo, none⟩) fl.length cl) fl := World.ownsRow.kept Ff gb (.inr (ne1 Ff (by decide)))
                have Zb := Zf.grown gb (by simp; omega)
                have BLb := adv BLf gb (by omega) Rf.lt
                have Lb : OwnB wb w.heap.size (.slice Av nv cv) lf := OwnB.mono ownb BLf.size
                have qx := Qb.cell 47
                have hq47 : (reqv R (.slice Ac nc cc) lv)[47]? = some lv := (reqv_rest R (.slice Ac nc cc) lv hfine.out.tag 12).trans rfl
                rw [List.getElem?_toArray, hq47] at qx
                have fx := Qb.frozen 47
                have gset := only_setCell (p := ⟨G5, 47, none⟩) (World.grownBy.refl wb (some G5)) (.inl rfl) (.slice Av nv cv)
                have Qc := Qb.set_ 47 (.slice Av nv cv)
                rw [leaf_put R (.slice Ac nc cc) lv (.slice Av nv cv) lf hfine.out.tag] at Qc
                have Q9' := Lib.hid Qc
                have R9' := Lib.hid (hbb.kept gset Qb (by decide) (by decide) (by omega))
                have C9' := Lib.hid (show OwnC (wb.setCell ⟨G5, 47, none⟩ (.slice Av nv cv)) w.heap.size (.slice Ac nc cc) T.2.1 from World.ownsRow.kept Cb gset (.inr (own_blk_ne Cb Qb (by decide))))
                have L9' := Lib.hid (show OwnB (wb.setCell ⟨G5, 47, none⟩ (.slice Av nv cv)) w.heap.size (.slice Av nv cv) lf from World.ownsRow.kept Lb gset (.inr (own_blk_ne Lb Qb (by decide))))
                have F9' := Lib.hid (show OwnF (wb.setCell ⟨G5, 47, none⟩ (.slice Av nv cv)) w8.heap.size G5 (.slice (some ⟨fbk, fo, none⟩) fl.length cl) fl from World.ownsRow.kept Fb gset (.inr (own_blk_ne Fb Qb (by decide))))
                have Z9' := Lib.hid (Zb.grown gset (by simp; omega))
                have BL9' := Lib.hid (adv BLb gset (by omega) Qb.lt)
                clear Qc hbb Qb Cb Lb Fb Zb BLb gset Rf Qf Cf Ff Zf BLf ne1 gb ownb hq47
                go_wp2
                go_roundw
                case rel => exact ⟨j + 1, s', { R with leaf := lf }, .slice Av nv cv, by omega, by go_num, HSTEP.out, ⟨hfine.out.tag, hfine.out.tagb, hfine.out.tid, hfine.out.cavn, hfine.out.cavl, HLB.out, HLL.out⟩, hcav.out, R9'.out, C9'.out, L9'.out, F9'.out, Q9'.out, Z9'.out, BL9'.out⟩
                case measure => simp [intOf]; omega
            · have qk : ¬ (j : Int) < fl.length := by omega
              have hgo' := hgo.out
              rw [List.drop_eq_nil_of_le (by omega)] at hgo'
              have HGE := Lib.hid hgo'
              clear hgo'
              go_wp2
              go_meet
              case rel => exact ⟨s, R, lv, HGE.out, hfine.out, hcav.out, hrd.out, ho.out, hlo.out, hq.out, hz.out, hbl.out⟩
        case rest =>
          obtain ⟨s, R, lv, hdone, hfine, hcav, hrd, ho, hlo, hq, hz, hbl⟩ := hcut
          clear Ha Oa Fa Qa Ra BLa
          have hEc := (hbl.out.cell (p := ⟨0, 0, none⟩) (World.block_lt_of_cell? _ _ HE.out)).trans HE.out
          have EC := Lib.hid (request_ended B g bs s wc hrd.out hEc)
          have hdef : reqDec bs = match rEnd bs s with
            | none => (none, R)
            | some x => (some x, zeroReq) := by
            unfold reqDec
            rw [← hdone.out]
            dsimp only
            cases rEnd bs s <;> rfl
          have HDEF := Lib.hid hdef
          clear hEc hdef
          go_wp2_with fail
          refine EC.out.mono ?_
          rintro e wd ⟨er2, rfl, hed, bd⟩
          have Qd := Lib.hid (hq.out.below bd hq.out.lt)
          have Zd := Lib.hid (hz.out.below bd hz.out.lt)
          have Cd := Lib.hid (ho.out.kept bd)
          have Ld := Lib.hid (hlo.out.kept bd)
          have BLd := Lib.hid (hbl.out.trans (bd.mono hbl.out.size))
          have hsz := hbl.out.size
          clear bd
          have lR := req_size R (.slice Ac nc cc) lv hfine.out.tag
          cases hend : rEnd bs s with
          | none =>
            rw [hend] at hed
            have e0 : er2 = .nilIface := hed
            subst e0
            have HD2 : Hid (reqDec bs = (none, R)) := by
              show _ = _
              rw [HDEF.out, hend]
            obtain ⟨Av, nv, cv, rfl, -, -, -⟩ := OwnB.sl Ld.out
            have oR : ∀ u ∈ reqv R (.slice Ac nc cc) (.slice Av nv cv), u.oneCell' = true := by
              intro u hu
              unfold reqv Req.rest at hu
              simp only [List.cons_append, List.mem_cons, List.mem_append, List.not_mem_nil, or_false] at hu
              rcases hu with rfl | hu | hu
              · rfl
              · exact tokv_one _ _ rfl _ u hu
              · rcases hu with rfl | rfl | rfl | rfl | rfl | rfl | rfl | rfl | rfl | rfl | rfl | rfl | rfl <;> rfl
            obtain ⟨M, hM⟩ : ∃ M, reqv R (.slice Ac nc cc) (.slice Av nv cv) = M := ⟨_, rfl⟩
            rw [hM] at Qd oR lR
            have RG := Lib.hid (rangeAt_blk Qd.out 0 M (fun j u h => by simpa using h))
            have IM := Lib.hid (show (Tryd.prog.info? 32).map (·.size) = some M.length by rw [lR]; exact Tryd.req_info)
            have IM' := Lib.hid (show (Tryd.prog.info? 32).map (·.size) = some M.toArray.size by rw [List.size_toArray, lR]; exact Tryd.req_info)
            have LM := Lib.hid lR
            have OM := Lib.hid oR
            have EM := Lib.hid hM
            clear lR oR hM hend
            go_wp2_with (first
              | (refine load_mid_want rfl 32 (.tmp 5) rfl G5 0 rfl M _ RG.out Tryd.underlying32 rfl IM.out ?_)
              | (refine wpList_store_row rfl 32 (.tmp 2) (.tmp 88) rfl w.heap.size M.toArray rfl rfl 32 _ Zd.out IM'.out (by simp [LM.out]) (by simpa using OM.out) ?_))
            have z := Zd.out.setRow M.toArray
            refine bodyPost_ret (results_cell_tmp rfl rfl (load_req z LM.out)) rfl ⟨.slice Ac nc cc, .slice Av nv cv, .nilIface, ?_, ?_, ?_, ?_, ?_⟩
            · rw [HD2.out, EM.out]
              rfl
            · rw [HD2.out]
              dsimp only
              rw [hcav.out]
              exact World.ownsRow.kept Cd.out (grown_setRow _ _ _) (.inr (own_blk_ne Cd.out Zd.out (by decide)))
            · rw [HD2.out]
              exact World.ownsRow.kept Ld.out (grown_setRow _ _ _) (.inr (own_blk_ne Ld.out Zd.out (by decide)))
            · rw [HD2.out]
              rfl
            · exact below_setRow BLd.out (Nat.le_refl _) _
          | some x =>
            rw [hend] at hed
            obtain ⟨hh, rfl, hhB, hkb⟩ := hed
            have HD2 : Hid (reqDec bs = (some x, zeroReq)) := by
              show _ = _
              rw [HDEF.out, hend]
            have HK := Lib.hid hkb
            clear hend hkb lR
            go_wp2_with (first
              | (refine wpList_read rfl ⟨.agg zeroReqv.toArray, run_built 32 _ rfl _ _ built_zeroR (by simp [Act.eval]), ?_⟩)
              | (refine wpList_store_row rfl 32 (.tmp 2) (.tmp 86) rfl w.heap.size zeroReqv.toArray rfl rfl 32 _ Zd.out zeroReqv_info rfl zeroReqv_one ?_))
            have z := Zd.out.setRow zeroReqv.toArray
            have hne : hh ≠ w.heap.size := by
              have h1 := hz.out.lt
              omega
            refine bodyPost_ret (results_cell_tmp rfl rfl (load_req z rfl)) rfl ⟨.slice none 0 0, .slice none 0 0, .iface 91 (.pointer (some ⟨hh, 0, none⟩)), ?_, ?_, ?_, ?_, ?_⟩
            · rw [HD2.out]
              rfl
            · rw [HD2.out]
              exact OwnC.nil _ _
            · rw [HD2.out]
              exact OwnB.nil _ _
            · rw [HD2.out]
              exact ⟨hh, rfl, Nat.le_trans hsz hhB, HK.out.setRow_far hne _⟩
            · exact below_setRow BLd.out (Nat.le_refl _) _

end Go.Proofs.YtbkdccamimakoaaDoor
