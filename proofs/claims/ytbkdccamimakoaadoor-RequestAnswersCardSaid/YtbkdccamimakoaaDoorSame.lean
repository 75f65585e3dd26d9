/-
  deponentbook.Same, deponentkeep.SameToken, SameRequest: of what is the same.
-/
import Derived.Test.YtbkdccamimakoaaDoorKeep
import Derived.Test.YtbkdccamimakoaaDoorSameT
import Derived.Deep.RegionHeld3
import Derived.Deep.Cut
namespace Go.Proofs.YtbkdccamimakoaaDoor
open Go.RowKit
set_option linter.unusedVariables false

set_option maxRecDepth 100000 in
set_option maxHeartbeats 4000000 in
theorem same_request (R : Req) (A B : Option Addr) (n c d : Nat) (Al Bl : Option Addr) (m cl dl : Nat) (w : World) (ht : R.tag.length = 32) (htb : ∀ b ∈ R.tag, b < 256) (ha : Reads w w.heap.size 2 A n (cavv R.cavs)) (hb : Reads w w.heap.size 2 B n (cavv R.cavs)) (hn : n ≤ 4611686018427387903)
    (hla : Reads w w.heap.size 1 Al m (byv R.leaf)) (hlb : Reads w w.heap.size 1 Bl m (byv R.leaf)) (hm : m ≤ 9223372036854775807) :
    Calls Tryd.prog 11 #[.agg (reqv R (.slice A n c) (.slice Al m cl)).toArray, .agg (reqv R (.slice B n d) (.slice Bl m dl)).toArray] w fun e w' => e = .returned (.bool true) ∧ Below w.heap.size w w' := by
  have hsame := fun w' h1 h2 => same_token R.tid A B n c d R.cavs R.tag w' ht htb h1 h2 hn
  have hL0 : (reqv R (.slice A n c) (.slice Al m cl))[0]? = some (.int .i64 R.op) := rfl
  have hM0 : (reqv R (.slice B n d) (.slice Bl m dl))[0]? = some (.int .i64 R.op) := rfl
  have hrL := reqv_rest R (.slice A n c) (.slice Al m cl) ht
  have hrM := reqv_rest R (.slice B n d) (.slice Bl m dl) ht
  have htL := reqv_tok R (.slice A n c) (.slice Al m cl)
  have htM := reqv_tok R (.slice B n d) (.slice Bl m dl)
  have hl1 := tokv_len R.tid (.slice A n c) R.tag ht
  have hl2 := tokv_len R.tid (.slice B n d) R.tag ht
  obtain ⟨T, hT⟩ : ∃ T, tokv R.tid (.slice A n c) R.tag = T := ⟨_, rfl⟩
  obtain ⟨U, hU⟩ : ∃ U, tokv R.tid (.slice B n d) R.tag = U := ⟨_, rfl⟩
  obtain ⟨L, hL⟩ : ∃ L, reqv R (.slice A n c) (.slice Al m cl) = L := ⟨_, rfl⟩
  obtain ⟨M, hM⟩ : ∃ M, reqv R (.slice B n d) (.slice Bl m dl) = M := ⟨_, rfl⟩
  rw [hL] at hL0 hrL htL ⊢
  rw [hM] at hM0 hrM htM ⊢
  rw [hT] at htL hl1
  rw [hU] at htM hl2
  simp only [hT, hU] at hsame
  have HS := Lib.hid hsame
  have HRL := Lib.hid hrL
  have HRM := Lib.hid hrM
  have HI1 := Lib.hid (show (Tryd.prog.info? 29).map (·.size) = some T.length by rw [hl1]; exact Tryd.tok_info)
  have HI2 := Lib.hid (show (Tryd.prog.info? 29).map (·.size) = some U.length by rw [hl2]; exact Tryd.tok_info)
  have hLc : ∀ {i : Nat} {v : Value}, L[i]? = some v → L.toArray[i]? = some v := fun h => by simpa using h
  have hMc : ∀ {i : Nat} {v : Value}, M[i]? = some v → M.toArray[i]? = some v := fun h => by simpa using h
  have t0 : Blk ((w.alloc (.cells L.toArray 32)).alloc (.cells M.toArray 32)) w.heap.size 32 L.toArray := (Blk.new w _ _).alloc _
  have s0 : Blk ((w.alloc (.cells L.toArray 32)).alloc (.cells M.toArray 32)) (w.heap.size + 1) 32 M.toArray := by
    have := Blk.new (w.alloc (.cells L.toArray 32)) 32 M.toArray
    rwa [alloc_size] at this
  have R1 := Lib.hid (rangeAt_blk t0 1 T htL)
  have R2 := Lib.hid (rangeAt_blk s0 1 U htM)
  have c0 := (t0.cell 0).trans (hLc hL0)
  have c1 := (s0.cell 0).trans (hMc hM0)
  have ha1 := (ha.laid (.cells L.toArray 32)).laid (.cells M.toArray 32)
  have hb1 := (hb.laid (.cells L.toArray 32)).laid (.cells M.toArray 32)
  have B1 : Below w.heap.size w ((w.alloc (.cells L.toArray 32)).alloc (.cells M.toArray 32)) := below_new (below_new (Below.refl _ _) _) _
  clear hL hM hT hU hsame hL0 hM0 hrL hrM htL htM hl1 hl2 ha hb
  go_enter Tryd.func11, Tryd.ntmps11
  go_upto_region 1 with (fail)
  refine wp_region_lit ?_
  iterate 7 (refine wpList_read rfl ⟨?_, ?_, ?_⟩; rotate_left; (focus (go_simp; (try go_bits); try rfl)); simp only [Act.put, List.setIfInBounds_toArray, List.set_cons_zero, List.set_cons_succ])
  refine load_mid_want rfl 29 (.tmp 11) rfl w.heap.size 1 rfl T _ R1.out Tryd.underlying29 rfl HI1.out ?_
  iterate 1 (refine wpList_read rfl ⟨?_, ?_, ?_⟩; rotate_left; (focus (go_simp; (try go_bits); try rfl)); simp only [Act.put, List.setIfInBounds_toArray, List.set_cons_zero, List.set_cons_succ])
  refine load_mid_want rfl 29 (.tmp 13) rfl (w.heap.size + 1) 1 rfl U _ R2.out Tryd.underlying29 rfl HI2.out ?_
  go_wp2_with fail
  refine (HS.out _ ha1 hb1).mono ?_
  rintro e w1 ⟨rfl, hb2⟩
  have t1 := t0.below hb2 t0.lt
  have s1 := s0.below hb2 s0.lt
  have B2 := B1.trans (hb2.mono B1.size)
  clear c0 c1 ha1 hb1 B1 R1 R2 hb2 t0 s0
  have a35 := (t1.cell 35).trans (hLc ((HRL.out 0).trans (show _ = some (.int .i64 R.tree) from rfl)))
  have b35 := (s1.cell 35).trans (hMc ((HRM.out 0).trans (show _ = some (.int .i64 R.tree) from rfl)))
  have a36 := (t1.cell 36).trans (hLc ((HRL.out 1).trans (show _ = some (.int .i64 R.tenant) from rfl)))
  have b36 := (s1.cell 36).trans (hMc ((HRM.out 1).trans (show _ = some (.int .i64 R.tenant) from rfl)))
  have a37 := (t1.cell 37).trans (hLc ((HRL.out 2).trans (show _ = some (.int .i64 R.role) from rfl)))
  have b37 := (s1.cell 37).trans (hMc ((HRM.out 2).trans (show _ = some (.int .i64 R.role) from rfl)))
  have a38 := (t1.cell 38).trans (hLc ((HRL.out 3).trans (show _ = some (.int .i64 R.state) from rfl)))
  have b38 := (s1.cell 38).trans (hMc ((HRM.out 3).trans (show _ = some (.int .i64 R.state) from rfl)))
  have a39 := (t1.cell 39).trans (hLc ((HRL.out 4).trans (show _ = some (.int .i64 R.weight) from rfl)))
  have b39 := (s1.cell 39).trans (hMc ((HRM.out 4).trans (show _ = some (.int .i64 R.weight) from rfl)))
  have a40 := (t1.cell 40).trans (hLc ((HRL.out 5).trans (show _ = some (.int .u32 R.id) from rfl)))
  have b40 := (s1.cell 40).trans (hMc ((HRM.out 5).trans (show _ = some (.int .u32 R.id) from rfl)))
  have a41 := (t1.cell 41).trans (hLc ((HRL.out 6).trans (show _ = some (.int .u64 R.lo) from rfl)))
  have b41 := (s1.cell 41).trans (hMc ((HRM.out 6).trans (show _ = some (.int .u64 R.lo) from rfl)))
  have a42 := (t1.cell 42).trans (hLc ((HRL.out 7).trans (show _ = some (.int .u64 R.hi) from rfl)))
  have b42 := (s1.cell 42).trans (hMc ((HRM.out 7).trans (show _ = some (.int .u64 R.hi) from rfl)))
  have a43 := (t1.cell 43).trans (hLc ((HRL.out 8).trans (show _ = some (.int .u32 R.rate) from rfl)))
  have b43 := (s1.cell 43).trans (hMc ((HRM.out 8).trans (show _ = some (.int .u32 R.rate) from rfl)))
  have a44 := (t1.cell 44).trans (hLc ((HRL.out 9).trans (show _ = some (.int .u32 R.burst) from rfl)))
  have b44 := (s1.cell 44).trans (hMc ((HRM.out 9).trans (show _ = some (.int .u32 R.burst) from rfl)))
  have a45 := (t1.cell 45).trans (hLc ((HRL.out 10).trans (show _ = some (.int .u32 R.store) from rfl)))
  have b45 := (s1.cell 45).trans (hMc ((HRM.out 10).trans (show _ = some (.int .u32 R.store) from rfl)))
  have a46 := (t1.cell 46).trans (hLc ((HRL.out 11).trans (show _ = some (.int .u64 R.expires) from rfl)))
  have b46 := (s1.cell 46).trans (hMc ((HRM.out 11).trans (show _ = some (.int .u64 R.expires) from rfl)))
  have a47 := (t1.cell 47).trans (hLc ((HRL.out 12).trans (show _ = some (.slice Al m cl) from rfl)))
  have b47 := (s1.cell 47).trans (hMc ((HRM.out 12).trans (show _ = some (.slice Bl m dl) from rfl)))
  clear hLc hMc t1 s1
  go_wp2_with fail
  refine (same_bytes Al Bl m cl dl R.leaf _ (hla.call B2) (hlb.call B2) hm).mono ?_
  rintro e w2 ⟨rfl, hb3⟩
  have HB := Lib.hid (B2.trans (hb3.mono B2.size))
  clear a35 b35 a36 b36 a37 b37 a38 b38 a39 b39 a40 b40 a41 b41 a42 b42 a43 b43 a44 b44 a45 b45 a46 b46 a47 b47 B2 hb3 hla hlb
  go_wp2
  go_ret
  exact ⟨rfl, HB.out⟩

end Go.Proofs.YtbkdccamimakoaaDoor
