/-
  The law RequestWrites: it returns true for every input, and leaves what was there as it was. (The frame is written by program, wip/frame.py, after the kit's skeleton.)
-/
import Derived.Test.YtbkdccamimakoaaRows
import Derived.WalkKit
import Derived.ProofKit
import Derived.OpenShut
import Derived.ShutString
import Derived.ChangeOld
import Derived.Below
import Derived.Lib.SmallJoins
import Derived.SizedLaws
import Derived.Test.YtbkdccamimakoaaOpenR
import Derived.Test.YtbkdccamimakoaaKnown18
import Derived.Test.YtbkdccamimakoaaSame
import Derived.Test.YtbkdccamimakoaaRef18E
import Derived.Test.YtbkdccamimakoaaSeq2
import Derived.Deep.Cut

namespace Go.Proofs.Ytbkdccamimakoaa.requestWrites
open Go.ChangeShapes Go.WideShapes Go.ChangeAt Go.RowKit
open Go.ChangeMaps (open_string shut_string)
set_option linter.unusedVariables false

theorem own : ownKnob Try.prog.godebug = none := by kernel_rfl

theorem laidOut : laidOutB Try.prog = true := by kernel_rfl

-- BY HAND



theorem Fit_of {R : Req} (h : R.Good) : R.Fit := by
  have e : ∀ {x : Int}, (Lit.int .i64 x).wf = true → x ≤ 18446744073709551615 := fun h => by have := i64_bd h; omega
  refine ⟨h.tag, fun o => Int.lt_of_le_of_lt (num_le R 18446744073709551615 (by decide) (e h.tree) (e h.tenant) (e h.role) (e h.state) (e h.weight) ?_ ?_ ?_ ?_ ?_ ?_ ?_ o) (by decide)⟩
  · have := h.id; omega
  · have := h.lo; omega
  · have := h.hi; omega
  · have := h.rate; omega
  · have := h.burst; omega
  · have := h.store; omega
  · have := h.expires; omega


set_option maxRecDepth 100000 in
set_option maxHeartbeats 8000000 in
theorem writes_walk (R0 : Req) (Ac : Option Addr) (cc : Nat) (Al : Option Addr) (cl : Nat) (W : World) (hg : R0.Good) (hcc : R0.cavs.length ≤ cc) (hcm : cc ≤ maxLen) (hlc0 : R0.leaf.length ≤ cl) (hcl : cl ≤ maxLen) (hcn : R0.cavs.length ≤ 8796093022208)
    (hca : Reads W W.heap.size 2 Ac R0.cavs.length (cavv R0.cavs)) (hla0 : Reads W W.heap.size 1 Al R0.leaf.length (byv R0.leaf)) :
    Calls Try.prog 5 #[.agg (reqv R0 (.slice Ac R0.cavs.length cc) (.slice Al R0.leaf.length cl)).toArray] W fun e w' => e = .returned (.bool true) ∧ Below W.heap.size W w' := by
  have h47 := (reqv_rest R0 (.slice Ac R0.cavs.length cc) (.slice Al R0.leaf.length cl) hg.tag 12).trans (show _ = some (.slice Al R0.leaf.length cl) from rfl)
  by_cases hlong : 600 < R0.leaf.length
  · obtain ⟨R, hR⟩ : ∃ R : Req, R = { R0 with leaf := R0.leaf.take 600 } := ⟨_, rfl⟩
    have hl600 : R.leaf.length = 600 := by rw [hR]; simp; omega
    have hM0 : ∀ cav v, reqv R0 cav v = reqv R cav v := fun cav v => by rw [hR]; rfl
    have hg' : R.Good := by
      rw [hR]
      exact ⟨hg.tag, hg.tagb, hg.tid, hg.cavn, hg.cavk, hg.op, hg.tree, hg.tenant, hg.role, hg.state, hg.weight, hg.id, hg.lo, hg.hi, hg.rate, hg.burst, hg.store, hg.expires, fun b hb => hg.leafb b (List.mem_of_mem_take hb)⟩
    have hla1 : Reads W W.heap.size 1 Al R.leaf.length (byv R.leaf) := by
      have := hla0.pre (k := 600) (by omega)
      rw [hl600, hR, show byv (R0.leaf.take 600) = (byv R0.leaf).take 600 by simp [byv]]
      exact this
    have hcv : R0.cavs = R.cavs := by rw [hR]
    rw [hcv] at hcc hcn hca h47 ⊢
    clear hR hcv hla0
    have hF := Fit_of hg'
    have htid := hg'.tid
    have hcavn := hg'.cavn
    have hlc : R.leaf.length ≤ cl := by omega
    have hlong2 : R.leaf.length ≤ 600 := by omega
    have hlenM := reqv_len R (.slice Ac R.cavs.length cc) (.slice Al R.leaf.length cl) hg'.tag
    have h0 : (reqv R (.slice Ac R.cavs.length cc) (.slice Al R.leaf.length cl))[0]? = some (.int .i64 R.op) := rfl
    have hset := reqv_set R (.slice Ac R.cavs.length cc) (.slice Al R0.leaf.length cl) (.slice Al R.leaf.length cl) hg'.tag
    rw [hM0] at h47 ⊢
    obtain ⟨K, hK⟩ : ∃ K, R0.leaf.length = K := ⟨_, rfl⟩
    rw [hK] at h47 hset hlong hlc0 ⊢
    obtain ⟨L, hL⟩ : ∃ L, reqv R (.slice Ac R.cavs.length cc) (.slice Al K cl) = L := ⟨_, rfl⟩
    obtain ⟨M, hM⟩ : ∃ M, reqv R (.slice Ac R.cavs.length cc) (.slice Al R.leaf.length cl) = M := ⟨_, rfl⟩
    rw [hL] at h47 hset ⊢
    rw [hM] at hset hlenM h0
    have H47 := Lib.hid h47
    have H0 := Lib.hid h0
    have HG := Lib.hid hg'
    have t0 : Blk (W.alloc (.cells L.toArray 31)) W.heap.size 31 L.toArray := Blk.new _ _ _
    have c47 := (t0.cell 47).trans (show L.toArray[47]? = some (.slice Al K cl) by simpa using H47.out)
    have f47 := t0.frozen 47
    have t : Blk (W.alloc (.cells M.toArray 31)) W.heap.size 31 M.toArray := Blk.new _ _ _
    have B : Below W.heap.size W (W.alloc (.cells M.toArray 31)) := (Below.refl _ _).alloc (Nat.le_refl _) _
    have hla := hla1.laid (.cells M.toArray 31)
    replace hca := hca.laid (.cells M.toArray 31)
    rw [hl600] at hset
    have HSET := Lib.hid hset
    have hk1 : (600 : Int) ≤ cl := by omega
    have hk2 : (600 : Int) < K := by omega
    have HL6 := Lib.hid hl600
    clear h47 h0 hg hg' hset hL hK hM0 hla1 hl600 t0
    go_enter Try.func5, Try.ntmps5
    go_upto_region 3 with (fail)
    rw [HSET.out]
    clear c47 f47
    have HI := Lib.hid (show (Try.prog.info? 31).map (·.size) = some M.length by rw [hlenM]; exact Try.req_info)
    have HRG := Lib.hid (rangeAt_blk t 0 M (fun j u h => by simpa using h))
    have kcopy := fun w' h1 h2 => keep_copy_request R Ac R.cavs.length cc Al R.leaf.length cl w' hF.tag h1 hcn h2 (by omega)
    have kbody := fun w' h => request_body R (.slice Ac R.cavs.length cc) Al cl w' hF h hlc hcl
    have krbody := fun w' h => ref18_body R (.slice Ac R.cavs.length cc) Al cl w' hF h hlc hcl
    have kenc := fun w' h1 h2 => request_encode R Ac cc Al cl w' hF h1 hlc hcl h2 hcc hcm htid hcavn
    have krenc := fun w' h1 h2 => ref18_encode R Ac cc Al cl w' hF h1 hlc hcl h2 hcc hcm htid hcavn
    simp only [hM] at kcopy kbody krbody kenc krenc
    have KC := Lib.hid kcopy
    have K1 := Lib.hid kbody
    have K2 := Lib.hid krbody
    have K3 := Lib.hid kenc
    have K4 := Lib.hid krenc
    have HM := Lib.hid hM
    clear kcopy kbody krbody kenc krenc hM hlenM
    go_wp2_with (refine load_mid_want rfl 31 (.tmp 1) rfl W.heap.size 0 rfl M _ HRG.out Try.underlying31 rfl HI.out ?_)
    refine (KC.out _ hca hla).mono ?_
    rintro e w2 ⟨cv, lv, rfl, hoc, hob, hb⟩
    replace t := t.below hb t.lt
    replace B := B.trans (hb.mono B.size)
    replace hla := hla.call hb
    replace hca := hca.call hb
    have HRG := Lib.hid (rangeAt_blk t 0 M (fun j u h => by simpa using h))
    obtain ⟨Acv, ccv, rfl, -, -, -⟩ := own_slice hoc
    obtain ⟨Alv, clv, rfl, -, -, -⟩ := hob.slice
    have hlen2 := reqv_len R (.slice Acv R.cavs.length ccv) (.slice Alv R.leaf.length clv) hF.tag
    have hone2 := reqv_one R (.slice Acv R.cavs.length ccv) (.slice Alv R.leaf.length clv) rfl rfl
    have ksame := fun w' h1 h2 h3 h4 => same_request R Ac Acv R.cavs.length cc ccv Al Alv R.leaf.length cl clv w' hF.tag HG.out.tagb h1 h2 (by omega) h3 h4 (by omega)
    clear hb
    obtain ⟨N, hN⟩ : ∃ N, reqv R (.slice Acv R.cavs.length ccv) (.slice Alv R.leaf.length clv) = N := ⟨_, rfl⟩
    rw [hN] at hlen2 hone2 ⊢
    simp only [hN, HM.out] at ksame
    have KS := Lib.hid ksame
    have HN := Lib.hid hN
    clear ksame
    have HL2 := Lib.hid hlen2
    have HO2 := Lib.hid (all_oneCell_toArray hone2)
    have HI2 := Lib.hid (show (Try.prog.info? 31).map (·.size) = some N.toArray.size by rw [List.size_toArray, hlen2]; exact Try.req_info)
    clear hN hlen2 hone2
    have z : Blk (w2.alloc (.cells #[.int .i64 0, .int .u32 0, .slice none 0 0, .int .u8 0, .int .u8 0, .int .u8 0, .int .u8 0, .int .u8 0, .int .u8 0, .int .u8 0, .int .u8 0, .int .u8 0, .int .u8 0, .int .u8 0, .int .u8 0, .int .u8 0, .int .u8 0, .int .u8 0, .int .u8 0, .int .u8 0, .int .u8 0, .int .u8 0, .int .u8 0, .int .u8 0, .int .u8 0, .int .u8 0, .int .u8 0, .int .u8 0, .int .u8 0, .int .u8 0, .int .u8 0, .int .u8 0, .int .u8 0, .int .u8 0, .int .u8 0, .int .i64 0, .int .i64 0, .int .i64 0, .int .i64 0, .int .i64 0, .int .u32 0, .int .u64 0, .int .u64 0, .int .u32 0, .int .u32 0, .int .u32 0, .int .u64 0, .slice none 0 0] 31)) w2.heap.size 31 #[.int .i64 0, .int .u32 0, .slice none 0 0, .int .u8 0, .int .u8 0, .int .u8 0, .int .u8 0, .int .u8 0, .int .u8 0, .int .u8 0, .int .u8 0, .int .u8 0, .int .u8 0, .int .u8 0, .int .u8 0, .int .u8 0, .int .u8 0, .int .u8 0, .int .u8 0, .int .u8 0, .int .u8 0, .int .u8 0, .int .u8 0, .int .u8 0, .int .u8 0, .int .u8 0, .int .u8 0, .int .u8 0, .int .u8 0, .int .u8 0, .int .u8 0, .int .u8 0, .int .u8 0, .int .u8 0, .int .u8 0, .int .i64 0, .int .i64 0, .int .i64 0, .int .i64 0, .int .i64 0, .int .u32 0, .int .u64 0, .int .u64 0, .int .u32 0, .int .u32 0, .int .u32 0, .int .u64 0, .slice none 0 0] := Blk.new _ _ _
    have B9 : Below w2.heap.size w2 ((w2.alloc (.cells #[.int .i64 0, .int .u32 0, .slice none 0 0, .int .u8 0, .int .u8 0, .int .u8 0, .int .u8 0, .int .u8 0, .int .u8 0, .int .u8 0, .int .u8 0, .int .u8 0, .int .u8 0, .int .u8 0, .int .u8 0, .int .u8 0, .int .u8 0, .int .u8 0, .int .u8 0, .int .u8 0, .int .u8 0, .int .u8 0, .int .u8 0, .int .u8 0, .int .u8 0, .int .u8 0, .int .u8 0, .int .u8 0, .int .u8 0, .int .u8 0, .int .u8 0, .int .u8 0, .int .u8 0, .int .u8 0, .int .u8 0, .int .i64 0, .int .i64 0, .int .i64 0, .int .i64 0, .int .i64 0, .int .u32 0, .int .u64 0, .int .u64 0, .int .u32 0, .int .u32 0, .int .u32 0, .int .u64 0, .slice none 0 0] 31)).setRow w2.heap.size N.toArray) := below_setRow ((Below.refl _ _).alloc (Nat.le_refl _) _) (Nat.le_refl _) _
    have hsm : w2.heap.size < ((w2.alloc (.cells #[.int .i64 0, .int .u32 0, .slice none 0 0, .int .u8 0, .int .u8 0, .int .u8 0, .int .u8 0, .int .u8 0, .int .u8 0, .int .u8 0, .int .u8 0, .int .u8 0, .int .u8 0, .int .u8 0, .int .u8 0, .int .u8 0, .int .u8 0, .int .u8 0, .int .u8 0, .int .u8 0, .int .u8 0, .int .u8 0, .int .u8 0, .int .u8 0, .int .u8 0, .int .u8 0, .int .u8 0, .int .u8 0, .int .u8 0, .int .u8 0, .int .u8 0, .int .u8 0, .int .u8 0, .int .u8 0, .int .u8 0, .int .i64 0, .int .i64 0, .int .i64 0, .int .i64 0, .int .i64 0, .int .u32 0, .int .u64 0, .int .u64 0, .int .u32 0, .int .u32 0, .int .u32 0, .int .u64 0, .slice none 0 0] 31)).setRow w2.heap.size N.toArray).heap.size := by simp
    have zz := z.setRow N.toArray
    obtain ⟨w3, hw3⟩ : ∃ w3, (w2.alloc (.cells #[.int .i64 0, .int .u32 0, .slice none 0 0, .int .u8 0, .int .u8 0, .int .u8 0, .int .u8 0, .int .u8 0, .int .u8 0, .int .u8 0, .int .u8 0, .int .u8 0, .int .u8 0, .int .u8 0, .int .u8 0, .int .u8 0, .int .u8 0, .int .u8 0, .int .u8 0, .int .u8 0, .int .u8 0, .int .u8 0, .int .u8 0, .int .u8 0, .int .u8 0, .int .u8 0, .int .u8 0, .int .u8 0, .int .u8 0, .int .u8 0, .int .u8 0, .int .u8 0, .int .u8 0, .int .u8 0, .int .u8 0, .int .i64 0, .int .i64 0, .int .i64 0, .int .i64 0, .int .i64 0, .int .u32 0, .int .u64 0, .int .u64 0, .int .u32 0, .int .u32 0, .int .u32 0, .int .u64 0, .slice none 0 0] 31)).setRow w2.heap.size N.toArray = w3 := ⟨_, rfl⟩
    rw [hw3] at B9 zz hsm
    have HW3 := Lib.hid hw3
    have hoc3 := hoc.kept B9
    have hob3 := hob.kept B9
    replace t := t.below B9 t.lt
    replace B := B.trans (B9.mono B.size)
    replace hla := hla.call B9
    replace hca := hca.call B9
    have HRG := Lib.hid (rangeAt_blk t 0 M (fun j u h => by simpa using h))
    clear hw3 hoc hob B9
    go_wp2_with (first
      | (refine wpList_store_row rfl 31 (.tmp 3) (.tmp 21) rfl w2.heap.size N.toArray rfl rfl 31 _ z HI2.out (by simp [HL2.out]) HO2.out ?_; rw [HW3.out])
      | (refine load_mid_want rfl 31 (.tmp 1) rfl W.heap.size 0 rfl M _ HRG.out Try.underlying31 rfl HI.out ?_))
    refine (K1.out _ hla).mono ?_
    rintro e w4 ⟨va, rfl, hoa, hb⟩
    have hoa4 : OwnB w4 _ va (bodyRes R).2 := hoa
    replace t := t.below hb t.lt
    replace B := B.trans (hb.mono B.size)
    replace hla := hla.call hb
    replace hca := hca.call hb
    have HRG := Lib.hid (rangeAt_blk t 0 M (fun j u h => by simpa using h))
    have zz4 := zz.below hb hsm
    have hoc4 := hoc3.kept hb
    have hob4 := hob3.kept hb
    have hsm4 : w2.heap.size < w4.heap.size := zz4.lt
    clear hoa hb zz hoc3 hob3 z
    go_wp2_with (refine load_mid_want rfl 31 (.tmp 1) rfl W.heap.size 0 rfl M _ HRG.out Try.underlying31 rfl HI.out ?_)
    refine (K2.out _ hla).mono ?_
    rintro e w5 ⟨vb, rfl, hob5, hb⟩
    replace t := t.below hb t.lt
    replace B := B.trans (hb.mono B.size)
    replace hla := hla.call hb
    replace hca := hca.call hb
    have HRG := Lib.hid (rangeAt_blk t 0 M (fun j u h => by simpa using h))
    have zz5 := zz4.below hb hsm4
    have hoc5 := hoc4.kept hb
    have hod5 := hob4.kept hb
    have hoa5 := hoa4.kept hb
    have hsm5 : w2.heap.size < w5.heap.size := zz5.lt
    clear hb zz4 hoc4 hob4 hoa4
    go_wp2_with (refine load_mid_want rfl 31 (.tmp 1) rfl W.heap.size 0 rfl M _ HRG.out Try.underlying31 rfl HI.out ?_)
    refine (K3.out _ hla hca).mono ?_
    rintro e w6 ⟨vc, rfl, hoe6, hb⟩
    replace t := t.below hb t.lt
    replace B := B.trans (hb.mono B.size)
    replace hla := hla.call hb
    replace hca := hca.call hb
    have HRG := Lib.hid (rangeAt_blk t 0 M (fun j u h => by simpa using h))
    have zz6 := zz5.below hb hsm5
    have hoc6 := hoc5.kept hb
    have hod6 := hod5.kept hb
    have hoa6 := hoa5.kept hb
    have hob6 := hob5.kept hb
    have hsm6 : w2.heap.size < w6.heap.size := zz6.lt
    clear hb zz5 hoc5 hod5 hoa5 hob5
    go_wp2_with (refine load_mid_want rfl 31 (.tmp 1) rfl W.heap.size 0 rfl M _ HRG.out Try.underlying31 rfl HI.out ?_)
    refine (K4.out _ hla hca).mono ?_
    rintro e w7 ⟨vd, rfl, hof7, hb⟩
    replace t := t.below hb t.lt
    replace B := B.trans (hb.mono B.size)
    replace hla := hla.call hb
    replace hca := hca.call hb
    have HRG := Lib.hid (rangeAt_blk t 0 M (fun j u h => by simpa using h))
    have zz7 := zz6.below hb hsm6
    have hoc7 := hoc6.kept hb
    have hod7 := hod6.kept hb
    have hoa7 := hoa6.kept hb
    have hob7 := hob6.kept hb
    have hoe7 := hoe6.kept hb
    clear hb zz6 hoc6 hod6 hoa6 hob6 hoe6
    obtain ⟨A1, n1, c1, rfl, -, -, ra⟩ := hoa7.sl
    obtain ⟨A2, n2, c2, rfl, -, -, rb⟩ := hob7.sl
    obtain ⟨A3, n3, c3, rfl, -, -, rc⟩ := hoe7.sl
    obtain ⟨A4, n4, c4, rfl, -, -, rd⟩ := hof7.sl
    obtain ⟨Acv', ccv', ecv, -, -, rcv⟩ := own_slice hoc7
    injection ecv with q1 q2 q3
    subst q1 q3
    obtain ⟨Alv', clv', elv, -, -, rlv⟩ := hod7.slice
    injection elv with q1 q2 q3
    subst q1 q3
    clear q2 hoc7 hod7 hoa7 hob7 hoe7 hof7
    have HRN := Lib.hid (rangeAt_blk zz7 0 N (fun j u h => by simpa using h))
    have c0 := (t.cell 0).trans (show M.toArray[0]? = some (.int .i64 R.op) by simpa using H0.out)
    obtain ⟨S, HS⟩ : ∃ S : World → Prop, Hid (∀ w', S w' = Below w7.heap.size w7 w') := ⟨_, fun _ => rfl⟩
    have FA : Hid (∀ w', S w' → (convert 29 9 (.slice A1 n1 c1)).run Try.prog w' = .ok (.string (bstr (bodyRes R).2)) w') := fun w' h => run_str (ra.below ((HS.out w').mp h))
    have FB : Hid (∀ w', S w' → (convert 29 9 (.slice A2 n2 c2)).run Try.prog w' = .ok (.string (bstr (bodyRes R).2)) w') := fun w' h => run_str (rb.below ((HS.out w').mp h))
    have FC : Hid (∀ w', S w' → (convert 29 9 (.slice A3 n3 c3)).run Try.prog w' = .ok (.string (bstr (encRes R).2)) w') := fun w' h => run_str (rc.below ((HS.out w').mp h))
    have FD : Hid (∀ w', S w' → (convert 29 9 (.slice A4 n4 c4)).run Try.prog w' = .ok (.string (bstr (encRes R).2)) w') := fun w' h => run_str (rd.below ((HS.out w').mp h))
    have FO : Hid (∀ w', S w' → w'.cell? ⟨W.heap.size, 0, none⟩ = some (.int .i64 R.op)) := fun w' h => (((HS.out w').mp h).cell t.lt).trans c0
    have FM : Hid (∀ w', S w' → w'.rangeAt W.heap.size 0 M) := fun w' h => rangeAt_blk (t.below ((HS.out w').mp h) t.lt) 0 M (fun j u h => by simpa using h)
    have FN : Hid (∀ w', S w' → w'.rangeAt w2.heap.size 0 N) := fun w' h => rangeAt_blk (zz7.below ((HS.out w').mp h) zz7.lt) 0 N (fun j u h => by simpa using h)
    have HI3 := Lib.hid (show (Try.prog.info? 31).map (·.size) = some N.length by rw [HL2.out]; exact Try.req_info)
    have S0 : Hid (S w7.drew) := (HS.out _).mpr (Below.refl _ _).drew
    have hca8 := hca.drewS
    have hla8 := hla.drewS
    have rcv8 := rcv.drewS
    have rlv8 := rlv.drewS
    clear ra rb rc rd c0 hla hca rcv rlv zz7 HRN HRG
    go_wp2_with fail
    refine wp_region_seq S 49 [(0, false), (1, false), (2, false), (3, false), (4, false), (5, false), (6, false), (7, false), (8, false), (9, false), (10, false), (11, false), (12, false), (13, false), (14, false), (15, false), (16, false), (17, false), (18, false), (19, false), (20, false), (21, false), (22, false), (23, false), (24, false), (26, false), (27, false), (25, true), (28, true), (29, false), (30, false), (31, false), (32, false), (33, false), (35, false), (36, false), (34, true), (37, true), (38, false), (39, false), (40, false), (41, false), (42, false), (43, true), (44, false), (45, false), (46, true), (47, false), (48, false)] (by kernel_rfl) rfl (by kernel_rfl) (by kernel_rfl) (by kernel_rfl) (fun _ _ d _ _ h => by cases d <;> exact h) S0.out ?_
    iterate 27 (refine wpSeq_read rfl rfl ⟨?_, fun w9 hS => ?_, ?_⟩; rotate_left; (focus (have q1 := FA.out w9 hS; have q2 := FB.out w9 hS; have q3 := FC.out w9 hS; have q4 := FD.out w9 hS; have q5 := FO.out w9 hS; go_simp; (try go_bits); try rfl)); simp only [Act.put, List.setIfInBounds_toArray, List.set_cons_zero, List.set_cons_succ])
    refine wpSeq_write rfl rfl ?_
    go_simp
    refine (request_trees _ _).mono ?_
    rintro e w8 ⟨rfl, rfl⟩
    refine ⟨by first | exact S0.out | exact fun _ => S0.out, ?_⟩
    refine wpSeq_write rfl rfl ?_
    go_simp
    refine (ref18_trees _ _).mono ?_
    rintro e w8 ⟨rfl, rfl⟩
    refine ⟨by first | exact S0.out | exact fun _ => S0.out, ?_⟩
    iterate 7 (refine wpSeq_read rfl rfl ⟨?_, fun w9 hS => ?_, ?_⟩; rotate_left; (focus (have q1 := FA.out w9 hS; have q2 := FB.out w9 hS; have q3 := FC.out w9 hS; have q4 := FD.out w9 hS; have q5 := FO.out w9 hS; go_simp; (try go_bits); try rfl)); simp only [Act.put, List.setIfInBounds_toArray, List.set_cons_zero, List.set_cons_succ])
    refine wpSeq_write rfl rfl ?_
    go_simp
    refine (request_admin _ _).mono ?_
    rintro e w8 ⟨rfl, rfl⟩
    refine ⟨by first | exact S0.out | exact fun _ => S0.out, ?_⟩
    refine wpSeq_write rfl rfl ?_
    go_simp
    refine (ref18_admin _ _).mono ?_
    rintro e w8 ⟨rfl, rfl⟩
    refine ⟨by first | exact S0.out | exact fun _ => S0.out, ?_⟩
    iterate 3 (refine wpSeq_read rfl rfl ⟨?_, fun w9 hS => ?_, ?_⟩; rotate_left; (focus (have q1 := FA.out w9 hS; have q2 := FB.out w9 hS; have q3 := FC.out w9 hS; have q4 := FD.out w9 hS; have q5 := FO.out w9 hS; go_simp; (try go_bits); try rfl)); simp only [Act.put, List.setIfInBounds_toArray, List.set_cons_zero, List.set_cons_succ])
    refine wpSeq_load rfl rfl 31 (.tmp 1) rfl W.heap.size 0 rfl M _ FM.out Try.underlying31 rfl HI.out ?_
    simp only [Act.put, List.setIfInBounds_toArray, List.set_cons_zero, List.set_cons_succ]
    refine wpSeq_load rfl rfl 31 (.tmp 3) rfl w2.heap.size 0 rfl N _ FN.out Try.underlying31 rfl HI3.out ?_
    simp only [Act.put, List.setIfInBounds_toArray, List.set_cons_zero, List.set_cons_succ]
    refine wpSeq_write rfl rfl ?_
    go_simp
    refine (KS.out _ hca8 rcv8 hla8 rlv8).mono ?_
    rintro e w8 ⟨rfl, hb8⟩
    have B8 : Below w7.heap.size w7 w8 := (Below.refl _ _).drew.trans hb8
    have S1 : Hid (S w8) := (HS.out _).mpr B8
    refine ⟨by first | exact S1.out | exact fun _ => S1.out, ?_⟩
    iterate 2 (refine wpSeq_read rfl rfl ⟨?_, fun w9 hS => ?_, ?_⟩; rotate_left; (focus (have q1 := FA.out w9 hS; have q2 := FB.out w9 hS; have q3 := FC.out w9 hS; have q4 := FD.out w9 hS; have q5 := FO.out w9 hS; go_simp; (try go_bits); try rfl)); simp only [Act.put, List.setIfInBounds_toArray, List.set_cons_zero, List.set_cons_succ])
    refine wpSeq_write rfl rfl ?_
    go_simp
    refine (known18 _).mono ?_
    rintro e w9 ⟨rfl, hb9⟩
    have B9 : Below w7.heap.size w7 w9 := B8.trans (hb9.mono B8.size)
    have S2 : Hid (S w9) := (HS.out _).mpr B9
    refine ⟨by first | exact S2.out | exact fun _ => S2.out, ?_⟩
    iterate 2 (refine wpSeq_read rfl rfl ⟨?_, fun w9 hS => ?_, ?_⟩; rotate_left; (focus (have q1 := FA.out w9 hS; have q2 := FB.out w9 hS; have q3 := FC.out w9 hS; have q4 := FD.out w9 hS; have q5 := FO.out w9 hS; go_simp; (try go_bits); try rfl)); simp only [Act.put, List.setIfInBounds_toArray, List.set_cons_zero, List.set_cons_succ])
    refine wpSeq_nil ?_
    have HB := Lib.hid (B.trans (B9.mono B.size))
    clear B B8 B9 hb8 hb9 hca8 hla8 rcv8 rlv8 t
    go_wp2
    go_ret
    exact ⟨rfl, HB.out⟩
  · obtain ⟨R, hR⟩ : ∃ R, R = R0 := ⟨_, rfl⟩
    rw [← hR] at h47 hg hcc hlc0 hcn hca hla0 hlong ⊢
    clear hR
    have hF := Fit_of hg
    have htid := hg.tid
    have hcavn := hg.cavn
    have hlc := hlc0
    have hlenM := reqv_len R (.slice Ac R.cavs.length cc) (.slice Al R.leaf.length cl) hg.tag
    have h0 : (reqv R (.slice Ac R.cavs.length cc) (.slice Al R.leaf.length cl))[0]? = some (.int .i64 R.op) := rfl
    obtain ⟨M, hM⟩ : ∃ M, reqv R (.slice Ac R.cavs.length cc) (.slice Al R.leaf.length cl) = M := ⟨_, rfl⟩
    rw [hM] at h47 hlenM h0 ⊢
    have H47 := Lib.hid h47
    have H0 := Lib.hid h0
    have HG := Lib.hid hg
    clear h47 h0 hg
    have t : Blk (W.alloc (.cells M.toArray 31)) W.heap.size 31 M.toArray := Blk.new _ _ _
    have B : Below W.heap.size W (W.alloc (.cells M.toArray 31)) := (Below.refl _ _).alloc (Nat.le_refl _) _
    have c47 := (t.cell 47).trans (show M.toArray[47]? = some (.slice Al R.leaf.length cl) by simpa using H47.out)
    have hla := hla0.laid (.cells M.toArray 31)
    replace hca := hca.laid (.cells M.toArray 31)
    clear hla0 hlc0
    go_enter Try.func5, Try.ntmps5
    have HI := Lib.hid (show (Try.prog.info? 31).map (·.size) = some M.length by rw [hlenM]; exact Try.req_info)
    have HRG := Lib.hid (rangeAt_blk t 0 M (fun j u h => by simpa using h))
    have kcopy := fun w' h1 h2 => keep_copy_request R Ac R.cavs.length cc Al R.leaf.length cl w' hF.tag h1 hcn h2 (by omega)
    have kbody := fun w' h => request_body R (.slice Ac R.cavs.length cc) Al cl w' hF h hlc hcl
    have krbody := fun w' h => ref18_body R (.slice Ac R.cavs.length cc) Al cl w' hF h hlc hcl
    have kenc := fun w' h1 h2 => request_encode R Ac cc Al cl w' hF h1 hlc hcl h2 hcc hcm htid hcavn
    have krenc := fun w' h1 h2 => ref18_encode R Ac cc Al cl w' hF h1 hlc hcl h2 hcc hcm htid hcavn
    simp only [hM] at kcopy kbody krbody kenc krenc
    have KC := Lib.hid kcopy
    have K1 := Lib.hid kbody
    have K2 := Lib.hid krbody
    have K3 := Lib.hid kenc
    have K4 := Lib.hid krenc
    have HM := Lib.hid hM
    clear kcopy kbody krbody kenc krenc hM hlenM
    go_wp2_with (refine load_mid_want rfl 31 (.tmp 1) rfl W.heap.size 0 rfl M _ HRG.out Try.underlying31 rfl HI.out ?_)
    refine (KC.out _ hca hla).mono ?_
    rintro e w2 ⟨cv, lv, rfl, hoc, hob, hb⟩
    replace t := t.below hb t.lt
    replace B := B.trans (hb.mono B.size)
    replace hla := hla.call hb
    replace hca := hca.call hb
    have HRG := Lib.hid (rangeAt_blk t 0 M (fun j u h => by simpa using h))
    obtain ⟨Acv, ccv, rfl, -, -, -⟩ := own_slice hoc
    obtain ⟨Alv, clv, rfl, -, -, -⟩ := hob.slice
    have hlen2 := reqv_len R (.slice Acv R.cavs.length ccv) (.slice Alv R.leaf.length clv) hF.tag
    have hone2 := reqv_one R (.slice Acv R.cavs.length ccv) (.slice Alv R.leaf.length clv) rfl rfl
    have ksame := fun w' h1 h2 h3 h4 => same_request R Ac Acv R.cavs.length cc ccv Al Alv R.leaf.length cl clv w' hF.tag HG.out.tagb h1 h2 (by omega) h3 h4 (by omega)
    clear hb
    obtain ⟨N, hN⟩ : ∃ N, reqv R (.slice Acv R.cavs.length ccv) (.slice Alv R.leaf.length clv) = N := ⟨_, rfl⟩
    rw [hN] at hlen2 hone2 ⊢
    simp only [hN, HM.out] at ksame
    have KS := Lib.hid ksame
    have HN := Lib.hid hN
    clear ksame
    have HL2 := Lib.hid hlen2
    have HO2 := Lib.hid (all_oneCell_toArray hone2)
    have HI2 := Lib.hid (show (Try.prog.info? 31).map (·.size) = some N.toArray.size by rw [List.size_toArray, hlen2]; exact Try.req_info)
    clear hN hlen2 hone2
    have z : Blk (w2.alloc (.cells #[.int .i64 0, .int .u32 0, .slice none 0 0, .int .u8 0, .int .u8 0, .int .u8 0, .int .u8 0, .int .u8 0, .int .u8 0, .int .u8 0, .int .u8 0, .int .u8 0, .int .u8 0, .int .u8 0, .int .u8 0, .int .u8 0, .int .u8 0, .int .u8 0, .int .u8 0, .int .u8 0, .int .u8 0, .int .u8 0, .int .u8 0, .int .u8 0, .int .u8 0, .int .u8 0, .int .u8 0, .int .u8 0, .int .u8 0, .int .u8 0, .int .u8 0, .int .u8 0, .int .u8 0, .int .u8 0, .int .u8 0, .int .i64 0, .int .i64 0, .int .i64 0, .int .i64 0, .int .i64 0, .int .u32 0, .int .u64 0, .int .u64 0, .int .u32 0, .int .u32 0, .int .u32 0, .int .u64 0, .slice none 0 0] 31)) w2.heap.size 31 #[.int .i64 0, .int .u32 0, .slice none 0 0, .int .u8 0, .int .u8 0, .int .u8 0, .int .u8 0, .int .u8 0, .int .u8 0, .int .u8 0, .int .u8 0, .int .u8 0, .int .u8 0, .int .u8 0, .int .u8 0, .int .u8 0, .int .u8 0, .int .u8 0, .int .u8 0, .int .u8 0, .int .u8 0, .int .u8 0, .int .u8 0, .int .u8 0, .int .u8 0, .int .u8 0, .int .u8 0, .int .u8 0, .int .u8 0, .int .u8 0, .int .u8 0, .int .u8 0, .int .u8 0, .int .u8 0, .int .u8 0, .int .i64 0, .int .i64 0, .int .i64 0, .int .i64 0, .int .i64 0, .int .u32 0, .int .u64 0, .int .u64 0, .int .u32 0, .int .u32 0, .int .u32 0, .int .u64 0, .slice none 0 0] := Blk.new _ _ _
    have B9 : Below w2.heap.size w2 ((w2.alloc (.cells #[.int .i64 0, .int .u32 0, .slice none 0 0, .int .u8 0, .int .u8 0, .int .u8 0, .int .u8 0, .int .u8 0, .int .u8 0, .int .u8 0, .int .u8 0, .int .u8 0, .int .u8 0, .int .u8 0, .int .u8 0, .int .u8 0, .int .u8 0, .int .u8 0, .int .u8 0, .int .u8 0, .int .u8 0, .int .u8 0, .int .u8 0, .int .u8 0, .int .u8 0, .int .u8 0, .int .u8 0, .int .u8 0, .int .u8 0, .int .u8 0, .int .u8 0, .int .u8 0, .int .u8 0, .int .u8 0, .int .u8 0, .int .i64 0, .int .i64 0, .int .i64 0, .int .i64 0, .int .i64 0, .int .u32 0, .int .u64 0, .int .u64 0, .int .u32 0, .int .u32 0, .int .u32 0, .int .u64 0, .slice none 0 0] 31)).setRow w2.heap.size N.toArray) := below_setRow ((Below.refl _ _).alloc (Nat.le_refl _) _) (Nat.le_refl _) _
    have hsm : w2.heap.size < ((w2.alloc (.cells #[.int .i64 0, .int .u32 0, .slice none 0 0, .int .u8 0, .int .u8 0, .int .u8 0, .int .u8 0, .int .u8 0, .int .u8 0, .int .u8 0, .int .u8 0, .int .u8 0, .int .u8 0, .int .u8 0, .int .u8 0, .int .u8 0, .int .u8 0, .int .u8 0, .int .u8 0, .int .u8 0, .int .u8 0, .int .u8 0, .int .u8 0, .int .u8 0, .int .u8 0, .int .u8 0, .int .u8 0, .int .u8 0, .int .u8 0, .int .u8 0, .int .u8 0, .int .u8 0, .int .u8 0, .int .u8 0, .int .u8 0, .int .i64 0, .int .i64 0, .int .i64 0, .int .i64 0, .int .i64 0, .int .u32 0, .int .u64 0, .int .u64 0, .int .u32 0, .int .u32 0, .int .u32 0, .int .u64 0, .slice none 0 0] 31)).setRow w2.heap.size N.toArray).heap.size := by simp
    have zz := z.setRow N.toArray
    obtain ⟨w3, hw3⟩ : ∃ w3, (w2.alloc (.cells #[.int .i64 0, .int .u32 0, .slice none 0 0, .int .u8 0, .int .u8 0, .int .u8 0, .int .u8 0, .int .u8 0, .int .u8 0, .int .u8 0, .int .u8 0, .int .u8 0, .int .u8 0, .int .u8 0, .int .u8 0, .int .u8 0, .int .u8 0, .int .u8 0, .int .u8 0, .int .u8 0, .int .u8 0, .int .u8 0, .int .u8 0, .int .u8 0, .int .u8 0, .int .u8 0, .int .u8 0, .int .u8 0, .int .u8 0, .int .u8 0, .int .u8 0, .int .u8 0, .int .u8 0, .int .u8 0, .int .u8 0, .int .i64 0, .int .i64 0, .int .i64 0, .int .i64 0, .int .i64 0, .int .u32 0, .int .u64 0, .int .u64 0, .int .u32 0, .int .u32 0, .int .u32 0, .int .u64 0, .slice none 0 0] 31)).setRow w2.heap.size N.toArray = w3 := ⟨_, rfl⟩
    rw [hw3] at B9 zz hsm
    have HW3 := Lib.hid hw3
    have hoc3 := hoc.kept B9
    have hob3 := hob.kept B9
    replace t := t.below B9 t.lt
    replace B := B.trans (B9.mono B.size)
    replace hla := hla.call B9
    replace hca := hca.call B9
    have HRG := Lib.hid (rangeAt_blk t 0 M (fun j u h => by simpa using h))
    clear hw3 hoc hob B9
    go_wp2_with (first
      | (refine wpList_store_row rfl 31 (.tmp 3) (.tmp 21) rfl w2.heap.size N.toArray rfl rfl 31 _ z HI2.out (by simp [HL2.out]) HO2.out ?_; rw [HW3.out])
      | (refine load_mid_want rfl 31 (.tmp 1) rfl W.heap.size 0 rfl M _ HRG.out Try.underlying31 rfl HI.out ?_))
    refine (K1.out _ hla).mono ?_
    rintro e w4 ⟨va, rfl, hoa, hb⟩
    have hoa4 : OwnB w4 _ va (bodyRes R).2 := hoa
    replace t := t.below hb t.lt
    replace B := B.trans (hb.mono B.size)
    replace hla := hla.call hb
    replace hca := hca.call hb
    have HRG := Lib.hid (rangeAt_blk t 0 M (fun j u h => by simpa using h))
    have zz4 := zz.below hb hsm
    have hoc4 := hoc3.kept hb
    have hob4 := hob3.kept hb
    have hsm4 : w2.heap.size < w4.heap.size := zz4.lt
    clear hoa hb zz hoc3 hob3 z
    go_wp2_with (refine load_mid_want rfl 31 (.tmp 1) rfl W.heap.size 0 rfl M _ HRG.out Try.underlying31 rfl HI.out ?_)
    refine (K2.out _ hla).mono ?_
    rintro e w5 ⟨vb, rfl, hob5, hb⟩
    replace t := t.below hb t.lt
    replace B := B.trans (hb.mono B.size)
    replace hla := hla.call hb
    replace hca := hca.call hb
    have HRG := Lib.hid (rangeAt_blk t 0 M (fun j u h => by simpa using h))
    have zz5 := zz4.below hb hsm4
    have hoc5 := hoc4.kept hb
    have hod5 := hob4.kept hb
    have hoa5 := hoa4.kept hb
    have hsm5 : w2.heap.size < w5.heap.size := zz5.lt
    clear hb zz4 hoc4 hob4 hoa4
    go_wp2_with (refine load_mid_want rfl 31 (.tmp 1) rfl W.heap.size 0 rfl M _ HRG.out Try.underlying31 rfl HI.out ?_)
    refine (K3.out _ hla hca).mono ?_
    rintro e w6 ⟨vc, rfl, hoe6, hb⟩
    replace t := t.below hb t.lt
    replace B := B.trans (hb.mono B.size)
    replace hla := hla.call hb
    replace hca := hca.call hb
    have HRG := Lib.hid (rangeAt_blk t 0 M (fun j u h => by simpa using h))
    have zz6 := zz5.below hb hsm5
    have hoc6 := hoc5.kept hb
    have hod6 := hod5.kept hb
    have hoa6 := hoa5.kept hb
    have hob6 := hob5.kept hb
    have hsm6 : w2.heap.size < w6.heap.size := zz6.lt
    clear hb zz5 hoc5 hod5 hoa5 hob5
    go_wp2_with (refine load_mid_want rfl 31 (.tmp 1) rfl W.heap.size 0 rfl M _ HRG.out Try.underlying31 rfl HI.out ?_)
    refine (K4.out _ hla hca).mono ?_
    rintro e w7 ⟨vd, rfl, hof7, hb⟩
    replace t := t.below hb t.lt
    replace B := B.trans (hb.mono B.size)
    replace hla := hla.call hb
    replace hca := hca.call hb
    have HRG := Lib.hid (rangeAt_blk t 0 M (fun j u h => by simpa using h))
    have zz7 := zz6.below hb hsm6
    have hoc7 := hoc6.kept hb
    have hod7 := hod6.kept hb
    have hoa7 := hoa6.kept hb
    have hob7 := hob6.kept hb
    have hoe7 := hoe6.kept hb
    clear hb zz6 hoc6 hod6 hoa6 hob6 hoe6
    obtain ⟨A1, n1, c1, rfl, -, -, ra⟩ := hoa7.sl
    obtain ⟨A2, n2, c2, rfl, -, -, rb⟩ := hob7.sl
    obtain ⟨A3, n3, c3, rfl, -, -, rc⟩ := hoe7.sl
    obtain ⟨A4, n4, c4, rfl, -, -, rd⟩ := hof7.sl
    obtain ⟨Acv', ccv', ecv, -, -, rcv⟩ := own_slice hoc7
    injection ecv with q1 q2 q3
    subst q1 q3
    obtain ⟨Alv', clv', elv, -, -, rlv⟩ := hod7.slice
    injection elv with q1 q2 q3
    subst q1 q3
    clear q2 hoc7 hod7 hoa7 hob7 hoe7 hof7
    have HRN := Lib.hid (rangeAt_blk zz7 0 N (fun j u h => by simpa using h))
    have c0 := (t.cell 0).trans (show M.toArray[0]? = some (.int .i64 R.op) by simpa using H0.out)
    obtain ⟨S, HS⟩ : ∃ S : World → Prop, Hid (∀ w', S w' = Below w7.heap.size w7 w') := ⟨_, fun _ => rfl⟩
    have FA : Hid (∀ w', S w' → (convert 29 9 (.slice A1 n1 c1)).run Try.prog w' = .ok (.string (bstr (bodyRes R).2)) w') := fun w' h => run_str (ra.below ((HS.out w').mp h))
    have FB : Hid (∀ w', S w' → (convert 29 9 (.slice A2 n2 c2)).run Try.prog w' = .ok (.string (bstr (bodyRes R).2)) w') := fun w' h => run_str (rb.below ((HS.out w').mp h))
    have FC : Hid (∀ w', S w' → (convert 29 9 (.slice A3 n3 c3)).run Try.prog w' = .ok (.string (bstr (encRes R).2)) w') := fun w' h => run_str (rc.below ((HS.out w').mp h))
    have FD : Hid (∀ w', S w' → (convert 29 9 (.slice A4 n4 c4)).run Try.prog w' = .ok (.string (bstr (encRes R).2)) w') := fun w' h => run_str (rd.below ((HS.out w').mp h))
    have FO : Hid (∀ w', S w' → w'.cell? ⟨W.heap.size, 0, none⟩ = some (.int .i64 R.op)) := fun w' h => (((HS.out w').mp h).cell t.lt).trans c0
    have FM : Hid (∀ w', S w' → w'.rangeAt W.heap.size 0 M) := fun w' h => rangeAt_blk (t.below ((HS.out w').mp h) t.lt) 0 M (fun j u h => by simpa using h)
    have FN : Hid (∀ w', S w' → w'.rangeAt w2.heap.size 0 N) := fun w' h => rangeAt_blk (zz7.below ((HS.out w').mp h) zz7.lt) 0 N (fun j u h => by simpa using h)
    have HI3 := Lib.hid (show (Try.prog.info? 31).map (·.size) = some N.length by rw [HL2.out]; exact Try.req_info)
    have S0 : Hid (S w7.drew) := (HS.out _).mpr (Below.refl _ _).drew
    have hca8 := hca.drewS
    have hla8 := hla.drewS
    have rcv8 := rcv.drewS
    have rlv8 := rlv.drewS
    clear ra rb rc rd c0 hla hca rcv rlv zz7 HRN HRG
    go_wp2_with fail
    refine wp_region_seq S 49 [(0, false), (1, false), (2, false), (3, false), (4, false), (5, false), (6, false), (7, false), (8, false), (9, false), (10, false), (11, false), (12, false), (13, false), (14, false), (15, false), (16, false), (17, false), (18, false), (19, false), (20, false), (21, false), (22, false), (23, false), (24, false), (26, false), (27, false), (25, true), (28, true), (29, false), (30, false), (31, false), (32, false), (33, false), (35, false), (36, false), (34, true), (37, true), (38, false), (39, false), (40, false), (41, false), (42, false), (43, true), (44, false), (45, false), (46, true), (47, false), (48, false)] (by kernel_rfl) rfl (by kernel_rfl) (by kernel_rfl) (by kernel_rfl) (fun _ _ d _ _ h => by cases d <;> exact h) S0.out ?_
    iterate 27 (refine wpSeq_read rfl rfl ⟨?_, fun w9 hS => ?_, ?_⟩; rotate_left; (focus (have q1 := FA.out w9 hS; have q2 := FB.out w9 hS; have q3 := FC.out w9 hS; have q4 := FD.out w9 hS; have q5 := FO.out w9 hS; go_simp; (try go_bits); try rfl)); simp only [Act.put, List.setIfInBounds_toArray, List.set_cons_zero, List.set_cons_succ])
    refine wpSeq_write rfl rfl ?_
    go_simp
    refine (request_trees _ _).mono ?_
    rintro e w8 ⟨rfl, rfl⟩
    refine ⟨by first | exact S0.out | exact fun _ => S0.out, ?_⟩
    refine wpSeq_write rfl rfl ?_
    go_simp
    refine (ref18_trees _ _).mono ?_
    rintro e w8 ⟨rfl, rfl⟩
    refine ⟨by first | exact S0.out | exact fun _ => S0.out, ?_⟩
    iterate 7 (refine wpSeq_read rfl rfl ⟨?_, fun w9 hS => ?_, ?_⟩; rotate_left; (focus (have q1 := FA.out w9 hS; have q2 := FB.out w9 hS; have q3 := FC.out w9 hS; have q4 := FD.out w9 hS; have q5 := FO.out w9 hS; go_simp; (try go_bits); try rfl)); simp only [Act.put, List.setIfInBounds_toArray, List.set_cons_zero, List.set_cons_succ])
    refine wpSeq_write rfl rfl ?_
    go_simp
    refine (request_admin _ _).mono ?_
    rintro e w8 ⟨rfl, rfl⟩
    refine ⟨by first | exact S0.out | exact fun _ => S0.out, ?_⟩
    refine wpSeq_write rfl rfl ?_
    go_simp
    refine (ref18_admin _ _).mono ?_
    rintro e w8 ⟨rfl, rfl⟩
    refine ⟨by first | exact S0.out | exact fun _ => S0.out, ?_⟩
    iterate 3 (refine wpSeq_read rfl rfl ⟨?_, fun w9 hS => ?_, ?_⟩; rotate_left; (focus (have q1 := FA.out w9 hS; have q2 := FB.out w9 hS; have q3 := FC.out w9 hS; have q4 := FD.out w9 hS; have q5 := FO.out w9 hS; go_simp; (try go_bits); try rfl)); simp only [Act.put, List.setIfInBounds_toArray, List.set_cons_zero, List.set_cons_succ])
    refine wpSeq_load rfl rfl 31 (.tmp 1) rfl W.heap.size 0 rfl M _ FM.out Try.underlying31 rfl HI.out ?_
    simp only [Act.put, List.setIfInBounds_toArray, List.set_cons_zero, List.set_cons_succ]
    refine wpSeq_load rfl rfl 31 (.tmp 3) rfl w2.heap.size 0 rfl N _ FN.out Try.underlying31 rfl HI3.out ?_
    simp only [Act.put, List.setIfInBounds_toArray, List.set_cons_zero, List.set_cons_succ]
    refine wpSeq_write rfl rfl ?_
    go_simp
    refine (KS.out _ hca8 rcv8 hla8 rlv8).mono ?_
    rintro e w8 ⟨rfl, hb8⟩
    have B8 : Below w7.heap.size w7 w8 := (Below.refl _ _).drew.trans hb8
    have S1 : Hid (S w8) := (HS.out _).mpr B8
    refine ⟨by first | exact S1.out | exact fun _ => S1.out, ?_⟩
    iterate 2 (refine wpSeq_read rfl rfl ⟨?_, fun w9 hS => ?_, ?_⟩; rotate_left; (focus (have q1 := FA.out w9 hS; have q2 := FB.out w9 hS; have q3 := FC.out w9 hS; have q4 := FD.out w9 hS; have q5 := FO.out w9 hS; go_simp; (try go_bits); try rfl)); simp only [Act.put, List.setIfInBounds_toArray, List.set_cons_zero, List.set_cons_succ])
    refine wpSeq_write rfl rfl ?_
    go_simp
    refine (known18 _).mono ?_
    rintro e w9 ⟨rfl, hb9⟩
    have B9 : Below w7.heap.size w7 w9 := B8.trans (hb9.mono B8.size)
    have S2 : Hid (S w9) := (HS.out _).mpr B9
    refine ⟨by first | exact S2.out | exact fun _ => S2.out, ?_⟩
    iterate 2 (refine wpSeq_read rfl rfl ⟨?_, fun w9 hS => ?_, ?_⟩; rotate_left; (focus (have q1 := FA.out w9 hS; have q2 := FB.out w9 hS; have q3 := FC.out w9 hS; have q4 := FD.out w9 hS; have q5 := FO.out w9 hS; go_simp; (try go_bits); try rfl)); simp only [Act.put, List.setIfInBounds_toArray, List.set_cons_zero, List.set_cons_succ])
    refine wpSeq_nil ?_
    have HB := Lib.hid (B.trans (B9.mono B.size))
    clear B B8 B9 hb8 hb9 hca8 hla8 rcv8 rlv8 t
    go_wp2
    go_ret
    exact ⟨rfl, HB.out⟩

theorem law_calls {H : Type} {enc : TypeId × Value → H} {base : Nat} (W : World) (v0 : Value) (d0 : DataW H) (p0 : List MemPlace)
    (o0 : Value.okWide Try.prog W .any base 31 v0) (h0 : DataW.Trod enc Try.prog W 0 (fun _ => true) true 31 v0 d0 p0) (z0 : ∀ n ∈ d0.weights Try.prog 31, n ≤ reachBytes) :
    Calls Try.prog 5 #[v0] W fun e w' => e = .returned (.bool true) ∧ Below W.heap.size W w' := by
  obtain ⟨cs, rfl, -⟩ := okWide_struct Try.underlying31 o0
  obtain ⟨fuel, hf⟩ := h0
  obtain ⟨R, Ac, cc, Al, cl, hcs, hg, h1, h2, h3, h4, h5, h6, h7⟩ := trod_request hf
  have hw := h7 reachBytes z0
  have e : cs = (reqv R (.slice Ac R.cavs.length cc) (.slice Al R.leaf.length cl)).toArray := by
    rw [← hcs]; simp [Value.cells]
  rw [e]
  exact writes_walk R Ac cc Al cl W hg h1 h2 h3 h4 (by simp only [reachBytes] at hw; omega) h5 h6
-- END BY HAND

set_option maxRecDepth 100000 in
theorem lifted (os : Os) (started : os.Started) (H : Type) (enc : TypeId × Value → H) :
    ReturnsInHanded {} Try.checked os 5 .any (Rows.requestWritesSpec.pre6 enc Try.prog Try.f5 Rows.requestWritesRow.domain false) (Rows.requestWritesSpec.post enc Try.prog Try.f5 false true false false) := by
  refine returnsInHanded_of_change_sized (C := Try.checked) own started (by kernel_rfl) Try.func5
    (ChangeSpec.witness6 (enc := enc) (C := Try.checked) false ⟨#[], #[.agg #[.int .i64 0, .int .u32 0, .slice none 0 0, .int .u8 0, .int .u8 0, .int .u8 0, .int .u8 0, .int .u8 0, .int .u8 0, .int .u8 0, .int .u8 0, .int .u8 0, .int .u8 0, .int .u8 0, .int .u8 0, .int .u8 0, .int .u8 0, .int .u8 0, .int .u8 0, .int .u8 0, .int .u8 0, .int .u8 0, .int .u8 0, .int .u8 0, .int .u8 0, .int .u8 0, .int .u8 0, .int .u8 0, .int .u8 0, .int .u8 0, .int .u8 0, .int .u8 0, .int .u8 0, .int .u8 0, .int .u8 0, .int .i64 0, .int .i64 0, .int .i64 0, .int .i64 0, .int .i64 0, .int .u32 0, .int .u64 0, .int .u64 0, .int .u32 0, .int .u32 0, .int .u32 0, .int .u64 0, .slice none 0 0]], []⟩ 8 (by kernel_rfl) (by kernel_rfl) (by kernel_rfl) (by kernel_rfl)) ?_
  intro W base args ds gs before hval0 hW hcnd hsz0 _
  have hval : ∀ (j : Nat) t v, Try.f5.params[j]? = some t → args[j]? = some v → Value.okWide Try.prog W .any base t v := hval0
  have hW' := hW
  obtain ⟨p, q, hA0, hV, rfl, hfz, hnd⟩ := hW
  have hA : DataW.TrodAll enc Try.prog W 0 (fun _ => true) true Try.f5.params.toList args.toList ds p := hA0
  rw [Try.params5] at hA hval
  obtain ⟨v0, vs0, d0, ds0, p0, q0, hargs, rfl, rfl, h0, r0⟩ := trodAll_cons hA
  obtain ⟨rfl, rfl, rfl⟩ := trodAll_nil r0
  obtain rfl : args = #[v0] := by cases args; simp_all
  obtain ⟨rfl, rfl⟩ := trodVars_none hV
  have lt0 : ∀ x ∈ p0, x.block < W.heap.size := by obtain ⟨m, hm⟩ := h0; exact DataW.trod_lt m _ _ _ hm
  have hz0 : ∀ n ∈ d0.weights Try.prog 31, n ≤ reachBytes := fun n hn => by
    have := List.all_eq_true.1 hsz0 n (DataW.weights_mem_each (j := 0) (t := 31) (d := d0) rfl rfl n hn)
    simpa using this
  clear hA0 hval0
  refine (law_calls (enc := enc) (base := base) W v0 d0 p0 (hval 0 31 v0 rfl rfl) h0 hz0).mono fun e W' ⟨he, bel⟩ => ?_
  subst he
  exact ⟨_, rfl, _, _, _, [], _, [], hW', trodAll_mk1 (shut_bool Try.underlying4 _), (trodAll_cons_mk (Below.trod laidOut (by kernel_rfl) (of_decide_eq_true (by kernel_rfl)) h0 bel lt0) trodAll_mk0), rfl, bel.frame _, fun h => by cases h⟩

theorem over : Rows.requestWritesRow.holds Try.pinned (OpenSpec.ofChange Rows.requestWritesSpec) :=
  OpenClaim.holds_of_wide 5 Try.f5 rfl rfl rfl rfl rfl rfl rfl ⟨rfl, rfl, rfl, rfl, rfl⟩ rfl rfl rfl rfl rfl (by kernel_rfl) Try.func5 (by kernel_rfl)
    (of_decide_eq_true (by kernel_rfl)) (by unfold Func.isWrapper; first | (rw [if_pos (by decide +kernel)]; kernel_rfl) | (rw [if_neg (by decide +kernel)]; exact ⟨rfl, rfl⟩))
    (fun os started H enc _ => lifted os started H enc)

/-- The statement. -/
theorem proved : Rows.RequestWritesSaid := over

#print axioms proved

end Go.Proofs.Ytbkdccamimakoaa.requestWrites
