/-
  The law RequestSizes: it returns true for every input, and leaves what was there as it was. (The frame is written by program, wip/frame.py, after the kit's skeleton.)
-/
import Derived.Test.YtbkdccamimakoaaRows
import Derived.WalkKit
import Derived.ProofKit
import Derived.OpenShut
import Derived.ShutString
import Derived.ChangeOld
import Derived.Below
import Derived.Lib.SmallJoins
import Derived.Test.YtbkdccamimakoaaOpenR
import Derived.Test.YtbkdccamimakoaaKnown18
import Derived.Test.YtbkdccamimakoaaSizes
import Derived.Test.YtbkdccamimakoaaSeq2
import Derived.Deep.Cut

namespace Go.Proofs.Ytbkdccamimakoaa.requestSizes
open Go.ChangeShapes Go.WideShapes Go.ChangeAt Go.RowKit
open Go.ChangeMaps (open_string shut_string)
set_option linter.unusedVariables false

theorem own : ownKnob Try.prog.godebug = none := by kernel_rfl

theorem laidOut : laidOutB Try.prog = true := by kernel_rfl

-- BY HAND
/-- The caveats that are asked for. -/
def cutc (cs : List (Int × Nat)) (k : Nat) : List (Int × Nat) := (cs.take k).map fun x => ((1 : Int), x.2)

theorem cutc_snoc (cs : List (Int × Nat)) (k : Nat) (x : Int × Nat) (h : cs[k]? = some x) : cutc cs (k + 1) = cutc cs k ++ [((1 : Int), x.2)] := by
  unfold cutc
  rw [List.take_add_one, h]
  simp

theorem cutc_len (cs : List (Int × Nat)) (k : Nat) (h : k ≤ cs.length) : (cutc cs k).length = k := by unfold cutc; simp; omega

theorem cutc_one (cs : List (Int × Nat)) (k : Nat) : ∀ x ∈ cutc cs k, x.1 = 1 := by
  intro x hx
  unfold cutc at hx
  obtain ⟨y, -, rfl⟩ := List.mem_map.1 hx
  rfl

theorem cutc_n (cs : List (Int × Nat)) (k : Nat) (h : ∀ x ∈ cs, x.2 < 4294967296) : ∀ x ∈ cutc cs k, x.2 < 4294967296 := by
  intro x hx
  unfold cutc at hx
  obtain ⟨y, hy, rfl⟩ := List.mem_map.1 hx
  exact h y (List.mem_of_mem_take hy)





theorem reads_cav (w : World) (n : Nat) : Reads (w.alloc (.cells (cavv [((1 : Int), n)]).toArray 41)) (w.alloc (.cells (cavv [((1 : Int), n)]).toArray 41)).heap.size 2 (some ⟨w.heap.size, 0, none⟩) 1 (cavv [((1 : Int), n)]) := by
  have := Reads.new w 41 (cavv [((1 : Int), n)]) 2 1 (by simp [cavv])
  rwa [alloc_size]

set_option maxRecDepth 100000 in
set_option maxHeartbeats 8000000 in
theorem sizes_walk (op : Int) (Al : Option Addr) (n cl : Nat) (leaf : List Nat) (Ac : Option Addr) (m cc : Nat) (cs : List (Int × Nat)) (W : World) (ho1 : -9223372036854775808 ≤ op) (ho2 : op ≤ 9223372036854775807)
    (hla : Reads W W.heap.size 1 Al n (byv leaf)) (hlc : n ≤ cl) (hcl : cl ≤ maxLen) (hca : Reads W W.heap.size 2 Ac m (cavv cs)) (hmc : m ≤ cc) (hcc : cc ≤ maxLen) (hcn : ∀ x ∈ cs, x.2 < 4294967296) :
    Calls Try.prog 4 #[.int .i64 op, .slice Al n cl, .slice Ac m cc] W fun e w' => e = .returned (.bool true) ∧ Below W.heap.size W w' := by
  have hml : cs.length = m := by have := hca.1; rw [cavv_length] at this; omega
  have HM := Lib.hid hml
  have HCN := Lib.hid hcn
  have hcm : m ≤ 9223372036854775807 := by unfold maxLen at hcc; omega
  clear hml hcn
  go_enter Try.func4, Try.ntmps4
  go_wp2_with fail
  refine (book_within op 0 11 _ (by omega) (by omega) (by omega) ho1 ho2).mono ?_
  rintro e w' ⟨rfl, rfl⟩
  obtain ⟨w1, w2⟩ := within_bd op 0 11 (by omega)
  obtain ⟨i, hi⟩ : ∃ i : Nat, within op 0 11 = (i : Int) := ⟨(within op 0 11).toNat, by omega⟩
  rw [hi] at w1 w2 ⊢
  have hi12 : i < 12 := by omega
  clear hi w1 w2
  by_cases hn : 256 < n
  · have hk1 : (256 : Int) < n := by omega
    have hk2 : (256 : Int) ≤ cl := by unfold maxLen at hcl; omega
    have hla2 := hla.pre (k := 256) (by omega)
    obtain ⟨lf, hlf⟩ : ∃ lf, lf = leaf.take 256 := ⟨_, rfl⟩
    have hlf2 : Reads W W.heap.size 1 Al 256 (byv lf) := by rw [hlf, show byv (leaf.take 256) = (byv leaf).take 256 by simp [byv]]; exact hla2
    have hlfk : lf.length = 256 := reads_bytes_le hlf2
    have HLF := Lib.hid hlfk
    have hK : 256 ≤ cl := by omega
    have hK2 : 256 ≤ 256 := by omega
    clear hlf hla2 hlfk hla
    go_wp2
    go_loopw [7, 8] (fun l i wr => ∃ k : Nat, k ≤ m ∧ k ≤ 4 ∧ i = .int .i64 k ∧ OwnC wr W.heap.size l (cutc cs k) ∧ Below W.heap.size W wr) (fun _ i _ => m - (intOf i).toNat)
    case atStart => exact ⟨0, by omega, by omega, rfl, OwnC.nil _ _, Below.refl _ _⟩
    case round =>
      obtain ⟨k, hk, hk4, rfl, hown, hb⟩ := hrel
      by_cases hlt : k < m
      · by_cases hlt4 : k < 4
        · have hx : cs[k]? = some (cs[k]'(by rw [HM.out]; exact hlt)) := List.getElem?_eq_getElem _
          obtain ⟨x, hxe⟩ : ∃ x, cs[k]'(by rw [HM.out]; exact hlt) = x := ⟨_, rfl⟩
          rw [hxe] at hx
          obtain ⟨q0, q1⟩ := cavv_at cs k x hx
          obtain ⟨b, o, rfl, hab, hcell⟩ := (hca.below hb).mid (by omega) (by omega)
          have m1 := hcell _ _ q1
          rw [← Nat.add_assoc] at m1
          have hcl := cutc_len cs k (by rw [HM.out]; exact hk)
          have hbs := hb.size
          have HX := Lib.hid hx
          clear hx hxe q0 q1 hcell
          go_wp2_with (at_builtin; refine append_cavs rfl _ _ rfl W.heap.size _ _ rfl (hown.alloc (.cells (cavv [((1 : Int), x.2)]).toArray 41)) _ 1 1 [((1 : Int), x.2)] rfl (reads_cav wr x.2) (by omega) (by simp only [alloc_size]; omega) ?_)
          intro v2 w2 hown2 hb2 hg2
          have HO := Lib.hid hown2
          have HB := Lib.hid ((hb.alloc hbs (.cells (cavv [((1 : Int), x.2)]).toArray 41)).trans hb2)
          clear hown2 hb2 hg2 hown hb m1 hcl
          go_wp2
          go_roundw
          case rel => exact ⟨k + 1, by omega, by omega, by go_num, by rw [cutc_snoc cs k x HX.out]; exact HO.out, HB.out⟩
          case measure => simp [intOf]; omega
        · obtain ⟨Av, q, cv, rfl, hq, hqc, hqm, hrv⟩ := hown.sl
          have hl := cutc_len cs k (by rw [HM.out]; exact hk)
          have hone := cutc_one cs k
          have hcn2 := cutc_n cs k HCN.out
          obtain ⟨Lc, hLc⟩ : ∃ Lc, cutc cs k = Lc := ⟨_, rfl⟩
          rw [hLc] at hq hl hone hcn2 hrv hown
          have hq4 : q ≤ 4 := by omega
          obtain ⟨Bb, E, p1, p2, p3, p4, p5⟩ := szReq_enc i lf Lc hi12 (by rw [HLF.out]; exact hK2) (by omega) hone
          have kb := fun w' h => request_body (szReq i lf Lc) (.slice Av q cv) Al cl w' (szReq_fit i lf Lc) h (by show lf.length ≤ cl; rw [HLF.out]; exact hK) hcl
          have ke := fun w' h1 h2 => request_encode (szReq i lf Lc) Av cv Al cl w' (szReq_fit i lf Lc) h1 (by show lf.length ≤ cl; rw [HLF.out]; exact hK) hcl h2 (by show Lc.length ≤ cv; omega) hqm (by show 0 < 4294967296; omega) hcn2
          simp only [show (szReq i lf Lc).leaf = lf from rfl, show (szReq i lf Lc).cavs = Lc from rfl, HLF.out, ← hq, p1, p3] at kb ke
          have e0 : (reqv (szReq i lf Lc) (.slice Av q cv) (.slice Al 256 cl)).toArray = #[.int .i64 (1 + (i : Int)), .int .u32 0, .slice Av q cv, .int .u8 0, .int .u8 0, .int .u8 0, .int .u8 0, .int .u8 0, .int .u8 0, .int .u8 0, .int .u8 0, .int .u8 0, .int .u8 0, .int .u8 0, .int .u8 0, .int .u8 0, .int .u8 0, .int .u8 0, .int .u8 0, .int .u8 0, .int .u8 0, .int .u8 0, .int .u8 0, .int .u8 0, .int .u8 0, .int .u8 0, .int .u8 0, .int .u8 0, .int .u8 0, .int .u8 0, .int .u8 0, .int .u8 0, .int .u8 0, .int .u8 0, .int .u8 0, .int .i64 0, .int .i64 0, .int .i64 0, .int .i64 0, .int .i64 0, .int .u32 0, .int .u64 0, .int .u64 0, .int .u32 0, .int .u32 0, .int .u32 0, .int .u64 0, .slice Al 256 cl] := rfl
          rw [HLF.out] at p2 p4
          obtain ⟨M, hM⟩ : ∃ M, reqv (szReq i lf Lc) (.slice Av q cv) (.slice Al 256 cl) = M := ⟨_, rfl⟩
          have hlenM := reqv_len (szReq i lf Lc) (.slice Av q cv) (.slice Al 256 cl) rfl
          have honeM := reqv_one (szReq i lf Lc) (.slice Av q cv) (.slice Al 256 cl) rfl rfl
          rw [hM] at e0 hlenM honeM
          simp only [hM] at kb ke
          have HI2 := Lib.hid (show (Try.prog.info? 31).map (·.size) = some M.toArray.size by rw [List.size_toArray, hlenM]; exact Try.req_info)
          have HLM := Lib.hid hlenM
          have HO2 := Lib.hid (all_oneCell_toArray honeM)
          have KB := Lib.hid kb
          have KE := Lib.hid ke
          have E0 := Lib.hid e0
          have HI := Lib.hid (show (Try.prog.info? 31).map (·.size) = some M.length by rw [hlenM]; exact Try.req_info)
          have Hq := Lib.hid hq
          have P2 := Lib.hid p2
          have P4 := Lib.hid p4
          have P5 := Lib.hid p5
          have Hl := Lib.hid hl
          clear hM hlenM honeM kb ke e0 p1 p2 p3 p4 p5 hl hq hone hcn2 hLc
          have hlw := hlf2.call hb
          have z : Blk (wr.alloc (.cells #[.int .i64 0, .int .u32 0, .slice none 0 0, .int .u8 0, .int .u8 0, .int .u8 0, .int .u8 0, .int .u8 0, .int .u8 0, .int .u8 0, .int .u8 0, .int .u8 0, .int .u8 0, .int .u8 0, .int .u8 0, .int .u8 0, .int .u8 0, .int .u8 0, .int .u8 0, .int .u8 0, .int .u8 0, .int .u8 0, .int .u8 0, .int .u8 0, .int .u8 0, .int .u8 0, .int .u8 0, .int .u8 0, .int .u8 0, .int .u8 0, .int .u8 0, .int .u8 0, .int .u8 0, .int .u8 0, .int .u8 0, .int .i64 0, .int .i64 0, .int .i64 0, .int .i64 0, .int .i64 0, .int .u32 0, .int .u64 0, .int .u64 0, .int .u32 0, .int .u32 0, .int .u32 0, .int .u64 0, .slice none 0 0] 31)) wr.heap.size 31 #[.int .i64 0, .int .u32 0, .slice none 0 0, .int .u8 0, .int .u8 0, .int .u8 0, .int .u8 0, .int .u8 0, .int .u8 0, .int .u8 0, .int .u8 0, .int .u8 0, .int .u8 0, .int .u8 0, .int .u8 0, .int .u8 0, .int .u8 0, .int .u8 0, .int .u8 0, .int .u8 0, .int .u8 0, .int .u8 0, .int .u8 0, .int .u8 0, .int .u8 0, .int .u8 0, .int .u8 0, .int .u8 0, .int .u8 0, .int .u8 0, .int .u8 0, .int .u8 0, .int .u8 0, .int .u8 0, .int .u8 0, .int .i64 0, .int .i64 0, .int .i64 0, .int .i64 0, .int .i64 0, .int .u32 0, .int .u64 0, .int .u64 0, .int .u32 0, .int .u32 0, .int .u32 0, .int .u64 0, .slice none 0 0] := Blk.new _ _ _
          have B9 : Below wr.heap.size wr ((wr.alloc (.cells #[.int .i64 0, .int .u32 0, .slice none 0 0, .int .u8 0, .int .u8 0, .int .u8 0, .int .u8 0, .int .u8 0, .int .u8 0, .int .u8 0, .int .u8 0, .int .u8 0, .int .u8 0, .int .u8 0, .int .u8 0, .int .u8 0, .int .u8 0, .int .u8 0, .int .u8 0, .int .u8 0, .int .u8 0, .int .u8 0, .int .u8 0, .int .u8 0, .int .u8 0, .int .u8 0, .int .u8 0, .int .u8 0, .int .u8 0, .int .u8 0, .int .u8 0, .int .u8 0, .int .u8 0, .int .u8 0, .int .u8 0, .int .i64 0, .int .i64 0, .int .i64 0, .int .i64 0, .int .i64 0, .int .u32 0, .int .u64 0, .int .u64 0, .int .u32 0, .int .u32 0, .int .u32 0, .int .u64 0, .slice none 0 0] 31)).setRow wr.heap.size M.toArray) := below_setRow ((Below.refl _ _).alloc (Nat.le_refl _) _) (Nat.le_refl _) _
          have zz := z.setRow M.toArray
          have hsm := zz.lt
          obtain ⟨w3, hw3⟩ : ∃ w3, (wr.alloc (.cells #[.int .i64 0, .int .u32 0, .slice none 0 0, .int .u8 0, .int .u8 0, .int .u8 0, .int .u8 0, .int .u8 0, .int .u8 0, .int .u8 0, .int .u8 0, .int .u8 0, .int .u8 0, .int .u8 0, .int .u8 0, .int .u8 0, .int .u8 0, .int .u8 0, .int .u8 0, .int .u8 0, .int .u8 0, .int .u8 0, .int .u8 0, .int .u8 0, .int .u8 0, .int .u8 0, .int .u8 0, .int .u8 0, .int .u8 0, .int .u8 0, .int .u8 0, .int .u8 0, .int .u8 0, .int .u8 0, .int .u8 0, .int .i64 0, .int .i64 0, .int .i64 0, .int .i64 0, .int .i64 0, .int .u32 0, .int .u64 0, .int .u64 0, .int .u32 0, .int .u32 0, .int .u32 0, .int .u64 0, .slice none 0 0] 31)).setRow wr.heap.size M.toArray = w3 := ⟨_, rfl⟩
          rw [hw3] at B9 zz hsm
          have HW3 := Lib.hid hw3
          have hlw3 := hlw.call B9
          have hrv3 := hrv.call B9
          have B3 := hb.trans (B9.mono hb.size)
          clear hw3 hown hb B9 hlw hrv
          go_upto_region 10 with (refine wpList_store_row rfl 31 (.tmp 9) (.tmp 46) rfl wr.heap.size M.toArray rfl (show _ = Value.agg M.toArray by rw [E0.out]; rfl) 31 _ z HI2.out (by simp [HLM.out]) HO2.out ?_; rw [HW3.out])
          have hz3 : Blk (w3.alloc (.cells #[.int .i64 260, .int .i64 2, .int .i64 10, .int .i64 18, .int .i64 18, .int .i64 4, .int .i64 3, .int .i64 3, .int .i64 2, .int .i64 11, .int .i64 5, .int .i64 14] 3)) w3.heap.size 3 _ := Blk.new _ _ _
          have cS : (w3.alloc (.cells #[.int .i64 260, .int .i64 2, .int .i64 10, .int .i64 18, .int .i64 18, .int .i64 4, .int .i64 3, .int .i64 3, .int .i64 2, .int .i64 11, .int .i64 5, .int .i64 14] 3)).cell? ⟨w3.heap.size, i, none⟩ = some (.int .i64 (szI i 256 : Int)) := (hz3.cell i).trans (by have := szI_at i 256 hi12; simpa using this)
          obtain ⟨s1, s2⟩ := szI_bd i 256 hi12 hK2
          obtain ⟨s, hs⟩ : ∃ s, szI i 256 = s := ⟨_, rfl⟩
          rw [hs] at cS s1 s2
          have HS := Lib.hid hs
          clear hs hz3 z
          go_upto_region 11 with (fail)
          have B9 : Below w3.heap.size w3 (w3.alloc (.cells #[.int .i64 260, .int .i64 2, .int .i64 10, .int .i64 18, .int .i64 18, .int .i64 4, .int .i64 3, .int .i64 3, .int .i64 2, .int .i64 11, .int .i64 5, .int .i64 14] 3)) := (Below.refl _ _).alloc (Nat.le_refl _) _
          obtain ⟨w4, hw4⟩ : ∃ w4, w3.alloc (.cells #[.int .i64 260, .int .i64 2, .int .i64 10, .int .i64 18, .int .i64 18, .int .i64 4, .int .i64 3, .int .i64 3, .int .i64 2, .int .i64 11, .int .i64 5, .int .i64 14] 3) = w4 := ⟨_, rfl⟩
          rw [hw4] at B9 ⊢
          have zz4 := zz.below B9 hsm
          have hlw4 := hlw3.call B9
          have hrv4 := hrv3.call B9
          have B4 := B3.trans (B9.mono B3.size)
          have HRG := Lib.hid (rangeAt_blk zz4 0 M (fun j u h => by simpa using h))
          clear hw4 cS B9 zz hlw3 hrv3 B3 hsm
          go_wp2_with (refine load_mid_want rfl 31 (.tmp 9) rfl wr.heap.size 0 rfl M _ HRG.out Try.underlying31 rfl HI.out ?_)
          refine (KB.out _ hlw4).mono ?_
          rintro e w5 ⟨va, rfl, hoa, hb5⟩
          have hoa5 : OwnB w5 _ va Bb := hoa
          have zz5 := zz4.below hb5 zz4.lt
          have hlw5 := hlw4.call hb5
          have hrv5 := hrv4.call hb5
          have B5 := B4.trans (hb5.mono B4.size)
          have HRG := Lib.hid (rangeAt_blk zz5 0 M (fun j u h => by simpa using h))
          clear hoa zz4 hlw4 hrv4 B4 hb5
          go_wp2_with (refine load_mid_want rfl 31 (.tmp 9) rfl wr.heap.size 0 rfl M _ HRG.out Try.underlying31 rfl HI.out ?_)
          refine (KE.out _ hlw5 hrv5).mono ?_
          rintro e w6 ⟨vb, rfl, hob, hb6⟩
          have hob6 : OwnB w6 _ vb E := hob
          have hoa6 := hoa5.kept hb6
          have B6 := B5.trans (hb6.mono B5.size)
          clear hob hoa5 zz5 hlw5 hrv5 B5 hb6 HRG
          obtain ⟨A1, n1, c1, rfl, -, -, ra⟩ := hoa6.sl
          obtain ⟨A2, n2, c2, rfl, hc2, hm2, rb⟩ := hob6.sl
          have l1 := reads_bytes_le ra
          have l2 := reads_bytes_le rb
          rw [P2.out, HS.out] at l1
          rw [P4.out, HS.out] at l2
          have hqe := Hq.out
          rw [← hqe] at l2
          subst l1
          have p5 := P5.out
          rw [← hqe] at p5
          obtain ⟨b2, o2, rfl, hb2, hcell2⟩ := rb.mid (by omega) (by omega)
          have rt : Reads w6 w6.heap.size 1 (some ⟨b2, o2 + (39 + 5 * q), none⟩) s (byv Bb) := by
            refine ⟨by have := ra.1; exact this, fun _ => ⟨_, rfl, hb2, fun j u hu => ?_⟩⟩
            rw [Addr.add_mid, Nat.add_assoc]
            refine hcell2 _ u ?_
            rw [← p5, show byv (E.drop (39 + 5 * q)) = (byv E).drop (39 + 5 * q) by simp [byv], List.getElem?_drop] at hu
            exact hu
          obtain ⟨S, HSS⟩ : ∃ S : World → Prop, Hid (∀ w', S w' = Below w6.heap.size w6 w') := ⟨_, fun _ => rfl⟩
          have FA : Hid (∀ w', S w' → (convert 29 9 (.slice A1 s c1)).run Try.prog w' = .ok (.string (bstr Bb)) w') := fun w' h => run_str (ra.below ((HSS.out w').mp h))
          have FB : Hid (∀ w', S w' → (convert 29 9 (.slice (some ⟨b2, o2 + (39 + 5 * q), none⟩) s (c2 - (39 + 5 * q)))).run Try.prog w' = .ok (.string (bstr Bb)) w') := fun w' h => run_str (rt.below ((HSS.out w').mp h))
          have S0 : Hid (S w6.drew) := (HSS.out _).mpr (Below.refl _ _).drew
          unfold maxLen at hm2
          have N2 := Lib.hid l2
          have hn2 : n2 ≤ 400 := by omega
          have hcne : ¬ c2 = 39 + 5 * q := by omega
          have hle1 : ((39 + 5 * q : Nat) : Int) ≤ n2 := by omega
          have hsub : n2 - (39 + 5 * q) = s := by omega
          clear ra rb rt l2 p5 hqe hcell2 hoa6 hob6
          go_wp2_with fail
          refine wp_region_seq S 40 [(0, false), (1, false), (2, false), (3, false), (4, false), (5, false), (6, false), (7, false), (8, false), (9, false), (10, false), (11, false), (12, false), (13, false), (14, false), (15, false), (16, false), (17, false), (18, false), (19, false), (20, false), (21, false), (22, false), (23, false), (24, false), (25, false), (26, false), (27, false), (28, false), (29, false), (30, false), (31, false), (32, false), (33, false), (34, false), (35, false), (36, false), (37, true), (38, false), (39, false)] (by kernel_rfl) rfl (by kernel_rfl) (by kernel_rfl) (by kernel_rfl) (fun _ _ d _ _ h => by cases d <;> exact h) S0.out ?_
          iterate 16 (refine wpSeq_read rfl rfl ⟨?_, fun w9 hS => ?_, ?_⟩; rotate_left; (focus (have q1 := FA.out w9 hS; have q2 := FB.out w9 hS; go_simp; (try go_bits); try rfl)); simp only [Act.put, List.setIfInBounds_toArray, List.set_cons_zero, List.set_cons_succ])
          refine wpSeq_read rfl rfl ⟨.int .i64 ((s : Int) + 2), fun w9 hS => by (go_simp; first | rfl | exact IntWalk.i64_in _ (by omega) | (rw [IntWalk.i64_in _ (by have := N2.out; omega)]; have := N2.out; omega) | (have := N2.out; omega)), ?_⟩
          simp only [Act.put, List.setIfInBounds_toArray, List.set_cons_zero, List.set_cons_succ]
          refine wpSeq_read rfl rfl ⟨.int .i64 ((s : Int) + 2 + 37), fun w9 hS => by (go_simp; first | rfl | exact IntWalk.i64_in _ (by omega) | (rw [IntWalk.i64_in _ (by have := N2.out; omega)]; have := N2.out; omega) | (have := N2.out; omega)), ?_⟩
          simp only [Act.put, List.setIfInBounds_toArray, List.set_cons_zero, List.set_cons_succ]
          iterate 2 (refine wpSeq_read rfl rfl ⟨?_, fun w9 hS => ?_, ?_⟩; rotate_left; (focus (have q1 := FA.out w9 hS; have q2 := FB.out w9 hS; go_simp; (try go_bits); try rfl)); simp only [Act.put, List.setIfInBounds_toArray, List.set_cons_zero, List.set_cons_succ])
          refine wpSeq_read rfl rfl ⟨.int .i64 (5 * (q : Int)), fun w9 hS => by (go_simp; first | rfl | exact IntWalk.i64_in _ (by omega) | (rw [IntWalk.i64_in _ (by have := N2.out; omega)]; have := N2.out; omega) | (have := N2.out; omega)), ?_⟩
          simp only [Act.put, List.setIfInBounds_toArray, List.set_cons_zero, List.set_cons_succ]
          refine wpSeq_read rfl rfl ⟨.int .i64 ((s : Int) + 2 + 37 + 5 * (q : Int)), fun w9 hS => by (go_simp; first | rfl | exact IntWalk.i64_in _ (by omega) | (rw [IntWalk.i64_in _ (by have := N2.out; omega)]; have := N2.out; omega) | (have := N2.out; omega)), ?_⟩
          simp only [Act.put, List.setIfInBounds_toArray, List.set_cons_zero, List.set_cons_succ]
          refine wpSeq_read rfl rfl ⟨.bool true, fun w9 hS => by (have hnn := N2.out; go_simp; first | rfl | omega | (simp; omega)), ?_⟩
          simp only [Act.put, List.setIfInBounds_toArray, List.set_cons_zero, List.set_cons_succ]
          iterate 6 (refine wpSeq_read rfl rfl ⟨?_, fun w9 hS => ?_, ?_⟩; rotate_left; (focus (have q1 := FA.out w9 hS; have q2 := FB.out w9 hS; go_simp; (try go_bits); try rfl)); simp only [Act.put, List.setIfInBounds_toArray, List.set_cons_zero, List.set_cons_succ])
          refine wpSeq_read rfl rfl ⟨.int .i64 ((39 + 5 * q : Nat) : Int), fun w9 hS => by (go_simp; first | rfl | exact IntWalk.i64_in _ (by omega) | (rw [IntWalk.i64_in _ (by have := N2.out; omega)]; have := N2.out; omega) | (have := N2.out; omega)), ?_⟩
          simp only [Act.put, List.setIfInBounds_toArray, List.set_cons_zero, List.set_cons_succ]
          refine wpSeq_read rfl rfl ⟨.slice (some ⟨b2, o2 + (39 + 5 * q), none⟩) s (c2 - (39 + 5 * q)), fun w9 hS => by (go_simp; rw [if_pos ⟨by omega, by omega⟩, show (39 + 5 * (q : Int)).toNat = 39 + 5 * q from by omega, if_neg hcne, hsub]), ?_⟩
          simp only [Act.put, List.setIfInBounds_toArray, List.set_cons_zero, List.set_cons_succ]
          iterate 6 (refine wpSeq_read rfl rfl ⟨?_, fun w9 hS => ?_, ?_⟩; rotate_left; (focus (have q1 := FA.out w9 hS; have q2 := FB.out w9 hS; go_simp; (try go_bits); try rfl)); simp only [Act.put, List.setIfInBounds_toArray, List.set_cons_zero, List.set_cons_succ])
          refine wpSeq_write rfl rfl ?_
          go_simp
          refine (known18 _).mono ?_
          rintro e w9 ⟨rfl, hb9⟩
          have B9 : Below w6.heap.size w6 w9 := (Below.refl _ _).drew.trans hb9
          have S2 : Hid (S w9) := (HSS.out _).mpr B9
          refine ⟨by first | exact S2.out | exact fun _ => S2.out, ?_⟩
          iterate 2 (refine wpSeq_read rfl rfl ⟨?_, fun w9 hS => ?_, ?_⟩; rotate_left; (focus (have q1 := FA.out w9 hS; have q2 := FB.out w9 hS; go_simp; (try go_bits); try rfl)); simp only [Act.put, List.setIfInBounds_toArray, List.set_cons_zero, List.set_cons_succ])
          refine wpSeq_nil ?_
          have HB := Lib.hid (B6.trans (B9.mono B6.size))
          clear B6 B9 hb9
          go_wp2
          go_ret
          exact ⟨rfl, HB.out⟩
      · obtain ⟨Av, q, cv, rfl, hq, hqc, hqm, hrv⟩ := hown.sl
        have hl := cutc_len cs k (by rw [HM.out]; exact hk)
        have hone := cutc_one cs k
        have hcn2 := cutc_n cs k HCN.out
        obtain ⟨Lc, hLc⟩ : ∃ Lc, cutc cs k = Lc := ⟨_, rfl⟩
        rw [hLc] at hq hl hone hcn2 hrv hown
        have hq4 : q ≤ 4 := by omega
        obtain ⟨Bb, E, p1, p2, p3, p4, p5⟩ := szReq_enc i lf Lc hi12 (by rw [HLF.out]; exact hK2) (by omega) hone
        have kb := fun w' h => request_body (szReq i lf Lc) (.slice Av q cv) Al cl w' (szReq_fit i lf Lc) h (by show lf.length ≤ cl; rw [HLF.out]; exact hK) hcl
        have ke := fun w' h1 h2 => request_encode (szReq i lf Lc) Av cv Al cl w' (szReq_fit i lf Lc) h1 (by show lf.length ≤ cl; rw [HLF.out]; exact hK) hcl h2 (by show Lc.length ≤ cv; omega) hqm (by show 0 < 4294967296; omega) hcn2
        simp only [show (szReq i lf Lc).leaf = lf from rfl, show (szReq i lf Lc).cavs = Lc from rfl, HLF.out, ← hq, p1, p3] at kb ke
        have e0 : (reqv (szReq i lf Lc) (.slice Av q cv) (.slice Al 256 cl)).toArray = #[.int .i64 (1 + (i : Int)), .int .u32 0, .slice Av q cv, .int .u8 0, .int .u8 0, .int .u8 0, .int .u8 0, .int .u8 0, .int .u8 0, .int .u8 0, .int .u8 0, .int .u8 0, .int .u8 0, .int .u8 0, .int .u8 0, .int .u8 0, .int .u8 0, .int .u8 0, .int .u8 0, .int .u8 0, .int .u8 0, .int .u8 0, .int .u8 0, .int .u8 0, .int .u8 0, .int .u8 0, .int .u8 0, .int .u8 0, .int .u8 0, .int .u8 0, .int .u8 0, .int .u8 0, .int .u8 0, .int .u8 0, .int .u8 0, .int .i64 0, .int .i64 0, .int .i64 0, .int .i64 0, .int .i64 0, .int .u32 0, .int .u64 0, .int .u64 0, .int .u32 0, .int .u32 0, .int .u32 0, .int .u64 0, .slice Al 256 cl] := rfl
        rw [HLF.out] at p2 p4
        obtain ⟨M, hM⟩ : ∃ M, reqv (szReq i lf Lc) (.slice Av q cv) (.slice Al 256 cl) = M := ⟨_, rfl⟩
        have hlenM := reqv_len (szReq i lf Lc) (.slice Av q cv) (.slice Al 256 cl) rfl
        have honeM := reqv_one (szReq i lf Lc) (.slice Av q cv) (.slice Al 256 cl) rfl rfl
        rw [hM] at e0 hlenM honeM
        simp only [hM] at kb ke
        have HI2 := Lib.hid (show (Try.prog.info? 31).map (·.size) = some M.toArray.size by rw [List.size_toArray, hlenM]; exact Try.req_info)
        have HLM := Lib.hid hlenM
        have HO2 := Lib.hid (all_oneCell_toArray honeM)
        have KB := Lib.hid kb
        have KE := Lib.hid ke
        have E0 := Lib.hid e0
        have HI := Lib.hid (show (Try.prog.info? 31).map (·.size) = some M.length by rw [hlenM]; exact Try.req_info)
        have Hq := Lib.hid hq
        have P2 := Lib.hid p2
        have P4 := Lib.hid p4
        have P5 := Lib.hid p5
        have Hl := Lib.hid hl
        clear hM hlenM honeM kb ke e0 p1 p2 p3 p4 p5 hl hq hone hcn2 hLc
        have hlw := hlf2.call hb
        have z : Blk (wr.alloc (.cells #[.int .i64 0, .int .u32 0, .slice none 0 0, .int .u8 0, .int .u8 0, .int .u8 0, .int .u8 0, .int .u8 0, .int .u8 0, .int .u8 0, .int .u8 0, .int .u8 0, .int .u8 0, .int .u8 0, .int .u8 0, .int .u8 0, .int .u8 0, .int .u8 0, .int .u8 0, .int .u8 0, .int .u8 0, .int .u8 0, .int .u8 0, .int .u8 0, .int .u8 0, .int .u8 0, .int .u8 0, .int .u8 0, .int .u8 0, .int .u8 0, .int .u8 0, .int .u8 0, .int .u8 0, .int .u8 0, .int .u8 0, .int .i64 0, .int .i64 0, .int .i64 0, .int .i64 0, .int .i64 0, .int .u32 0, .int .u64 0, .int .u64 0, .int .u32 0, .int .u32 0, .int .u32 0, .int .u64 0, .slice none 0 0] 31)) wr.heap.size 31 #[.int .i64 0, .int .u32 0, .slice none 0 0, .int .u8 0, .int .u8 0, .int .u8 0, .int .u8 0, .int .u8 0, .int .u8 0, .int .u8 0, .int .u8 0, .int .u8 0, .int .u8 0, .int .u8 0, .int .u8 0, .int .u8 0, .int .u8 0, .int .u8 0, .int .u8 0, .int .u8 0, .int .u8 0, .int .u8 0, .int .u8 0, .int .u8 0, .int .u8 0, .int .u8 0, .int .u8 0, .int .u8 0, .int .u8 0, .int .u8 0, .int .u8 0, .int .u8 0, .int .u8 0, .int .u8 0, .int .u8 0, .int .i64 0, .int .i64 0, .int .i64 0, .int .i64 0, .int .i64 0, .int .u32 0, .int .u64 0, .int .u64 0, .int .u32 0, .int .u32 0, .int .u32 0, .int .u64 0, .slice none 0 0] := Blk.new _ _ _
        have B9 : Below wr.heap.size wr ((wr.alloc (.cells #[.int .i64 0, .int .u32 0, .slice none 0 0, .int .u8 0, .int .u8 0, .int .u8 0, .int .u8 0, .int .u8 0, .int .u8 0, .int .u8 0, .int .u8 0, .int .u8 0, .int .u8 0, .int .u8 0, .int .u8 0, .int .u8 0, .int .u8 0, .int .u8 0, .int .u8 0, .int .u8 0, .int .u8 0, .int .u8 0, .int .u8 0, .int .u8 0, .int .u8 0, .int .u8 0, .int .u8 0, .int .u8 0, .int .u8 0, .int .u8 0, .int .u8 0, .int .u8 0, .int .u8 0, .int .u8 0, .int .u8 0, .int .i64 0, .int .i64 0, .int .i64 0, .int .i64 0, .int .i64 0, .int .u32 0, .int .u64 0, .int .u64 0, .int .u32 0, .int .u32 0, .int .u32 0, .int .u64 0, .slice none 0 0] 31)).setRow wr.heap.size M.toArray) := below_setRow ((Below.refl _ _).alloc (Nat.le_refl _) _) (Nat.le_refl _) _
        have zz := z.setRow M.toArray
        have hsm := zz.lt
        obtain ⟨w3, hw3⟩ : ∃ w3, (wr.alloc (.cells #[.int .i64 0, .int .u32 0, .slice none 0 0, .int .u8 0, .int .u8 0, .int .u8 0, .int .u8 0, .int .u8 0, .int .u8 0, .int .u8 0, .int .u8 0, .int .u8 0, .int .u8 0, .int .u8 0, .int .u8 0, .int .u8 0, .int .u8 0, .int .u8 0, .int .u8 0, .int .u8 0, .int .u8 0, .int .u8 0, .int .u8 0, .int .u8 0, .int .u8 0, .int .u8 0, .int .u8 0, .int .u8 0, .int .u8 0, .int .u8 0, .int .u8 0, .int .u8 0, .int .u8 0, .int .u8 0, .int .u8 0, .int .i64 0, .int .i64 0, .int .i64 0, .int .i64 0, .int .i64 0, .int .u32 0, .int .u64 0, .int .u64 0, .int .u32 0, .int .u32 0, .int .u32 0, .int .u64 0, .slice none 0 0] 31)).setRow wr.heap.size M.toArray = w3 := ⟨_, rfl⟩
        rw [hw3] at B9 zz hsm
        have HW3 := Lib.hid hw3
        have hlw3 := hlw.call B9
        have hrv3 := hrv.call B9
        have B3 := hb.trans (B9.mono hb.size)
        clear hw3 hown hb B9 hlw hrv
        go_upto_region 10 with (refine wpList_store_row rfl 31 (.tmp 9) (.tmp 46) rfl wr.heap.size M.toArray rfl (show _ = Value.agg M.toArray by rw [E0.out]; rfl) 31 _ z HI2.out (by simp [HLM.out]) HO2.out ?_; rw [HW3.out])
        have hz3 : Blk (w3.alloc (.cells #[.int .i64 260, .int .i64 2, .int .i64 10, .int .i64 18, .int .i64 18, .int .i64 4, .int .i64 3, .int .i64 3, .int .i64 2, .int .i64 11, .int .i64 5, .int .i64 14] 3)) w3.heap.size 3 _ := Blk.new _ _ _
        have cS : (w3.alloc (.cells #[.int .i64 260, .int .i64 2, .int .i64 10, .int .i64 18, .int .i64 18, .int .i64 4, .int .i64 3, .int .i64 3, .int .i64 2, .int .i64 11, .int .i64 5, .int .i64 14] 3)).cell? ⟨w3.heap.size, i, none⟩ = some (.int .i64 (szI i 256 : Int)) := (hz3.cell i).trans (by have := szI_at i 256 hi12; simpa using this)
        obtain ⟨s1, s2⟩ := szI_bd i 256 hi12 hK2
        obtain ⟨s, hs⟩ : ∃ s, szI i 256 = s := ⟨_, rfl⟩
        rw [hs] at cS s1 s2
        have HS := Lib.hid hs
        clear hs hz3 z
        go_upto_region 11 with (fail)
        have B9 : Below w3.heap.size w3 (w3.alloc (.cells #[.int .i64 260, .int .i64 2, .int .i64 10, .int .i64 18, .int .i64 18, .int .i64 4, .int .i64 3, .int .i64 3, .int .i64 2, .int .i64 11, .int .i64 5, .int .i64 14] 3)) := (Below.refl _ _).alloc (Nat.le_refl _) _
        obtain ⟨w4, hw4⟩ : ∃ w4, w3.alloc (.cells #[.int .i64 260, .int .i64 2, .int .i64 10, .int .i64 18, .int .i64 18, .int .i64 4, .int .i64 3, .int .i64 3, .int .i64 2, .int .i64 11, .int .i64 5, .int .i64 14] 3) = w4 := ⟨_, rfl⟩
        rw [hw4] at B9 ⊢
        have zz4 := zz.below B9 hsm
        have hlw4 := hlw3.call B9
        have hrv4 := hrv3.call B9
        have B4 := B3.trans (B9.mono B3.size)
        have HRG := Lib.hid (rangeAt_blk zz4 0 M (fun j u h => by simpa using h))
        clear hw4 cS B9 zz hlw3 hrv3 B3 hsm
        go_wp2_with (refine load_mid_want rfl 31 (.tmp 9) rfl wr.heap.size 0 rfl M _ HRG.out Try.underlying31 rfl HI.out ?_)
        refine (KB.out _ hlw4).mono ?_
        rintro e w5 ⟨va, rfl, hoa, hb5⟩
        have hoa5 : OwnB w5 _ va Bb := hoa
        have zz5 := zz4.below hb5 zz4.lt
        have hlw5 := hlw4.call hb5
        have hrv5 := hrv4.call hb5
        have B5 := B4.trans (hb5.mono B4.size)
        have HRG := Lib.hid (rangeAt_blk zz5 0 M (fun j u h => by simpa using h))
        clear hoa zz4 hlw4 hrv4 B4 hb5
        go_wp2_with (refine load_mid_want rfl 31 (.tmp 9) rfl wr.heap.size 0 rfl M _ HRG.out Try.underlying31 rfl HI.out ?_)
        refine (KE.out _ hlw5 hrv5).mono ?_
        rintro e w6 ⟨vb, rfl, hob, hb6⟩
        have hob6 : OwnB w6 _ vb E := hob
        have hoa6 := hoa5.kept hb6
        have B6 := B5.trans (hb6.mono B5.size)
        clear hob hoa5 zz5 hlw5 hrv5 B5 hb6 HRG
        obtain ⟨A1, n1, c1, rfl, -, -, ra⟩ := hoa6.sl
        obtain ⟨A2, n2, c2, rfl, hc2, hm2, rb⟩ := hob6.sl
        have l1 := reads_bytes_le ra
        have l2 := reads_bytes_le rb
        rw [P2.out, HS.out] at l1
        rw [P4.out, HS.out] at l2
        have hqe := Hq.out
        rw [← hqe] at l2
        subst l1
        have p5 := P5.out
        rw [← hqe] at p5
        obtain ⟨b2, o2, rfl, hb2, hcell2⟩ := rb.mid (by omega) (by omega)
        have rt : Reads w6 w6.heap.size 1 (some ⟨b2, o2 + (39 + 5 * q), none⟩) s (byv Bb) := by
          refine ⟨by have := ra.1; exact this, fun _ => ⟨_, rfl, hb2, fun j u hu => ?_⟩⟩
          rw [Addr.add_mid, Nat.add_assoc]
          refine hcell2 _ u ?_
          rw [← p5, show byv (E.drop (39 + 5 * q)) = (byv E).drop (39 + 5 * q) by simp [byv], List.getElem?_drop] at hu
          exact hu
        obtain ⟨S, HSS⟩ : ∃ S : World → Prop, Hid (∀ w', S w' = Below w6.heap.size w6 w') := ⟨_, fun _ => rfl⟩
        have FA : Hid (∀ w', S w' → (convert 29 9 (.slice A1 s c1)).run Try.prog w' = .ok (.string (bstr Bb)) w') := fun w' h => run_str (ra.below ((HSS.out w').mp h))
        have FB : Hid (∀ w', S w' → (convert 29 9 (.slice (some ⟨b2, o2 + (39 + 5 * q), none⟩) s (c2 - (39 + 5 * q)))).run Try.prog w' = .ok (.string (bstr Bb)) w') := fun w' h => run_str (rt.below ((HSS.out w').mp h))
        have S0 : Hid (S w6.drew) := (HSS.out _).mpr (Below.refl _ _).drew
        unfold maxLen at hm2
        have N2 := Lib.hid l2
        have hn2 : n2 ≤ 400 := by omega
        have hcne : ¬ c2 = 39 + 5 * q := by omega
        have hle1 : ((39 + 5 * q : Nat) : Int) ≤ n2 := by omega
        have hsub : n2 - (39 + 5 * q) = s := by omega
        clear ra rb rt l2 p5 hqe hcell2 hoa6 hob6
        go_wp2_with fail
        refine wp_region_seq S 40 [(0, false), (1, false), (2, false), (3, false), (4, false), (5, false), (6, false), (7, false), (8, false), (9, false), (10, false), (11, false), (12, false), (13, false), (14, false), (15, false), (16, false), (17, false), (18, false), (19, false), (20, false), (21, false), (22, false), (23, false), (24, false), (25, false), (26, false), (27, false), (28, false), (29, false), (30, false), (31, false), (32, false), (33, false), (34, false), (35, false), (36, false), (37, true), (38, false), (39, false)] (by kernel_rfl) rfl (by kernel_rfl) (by kernel_rfl) (by kernel_rfl) (fun _ _ d _ _ h => by cases d <;> exact h) S0.out ?_
        iterate 16 (refine wpSeq_read rfl rfl ⟨?_, fun w9 hS => ?_, ?_⟩; rotate_left; (focus (have q1 := FA.out w9 hS; have q2 := FB.out w9 hS; go_simp; (try go_bits); try rfl)); simp only [Act.put, List.setIfInBounds_toArray, List.set_cons_zero, List.set_cons_succ])
        refine wpSeq_read rfl rfl ⟨.int .i64 ((s : Int) + 2), fun w9 hS => by (go_simp; first | rfl | exact IntWalk.i64_in _ (by omega) | (rw [IntWalk.i64_in _ (by have := N2.out; omega)]; have := N2.out; omega) | (have := N2.out; omega)), ?_⟩
        simp only [Act.put, List.setIfInBounds_toArray, List.set_cons_zero, List.set_cons_succ]
        refine wpSeq_read rfl rfl ⟨.int .i64 ((s : Int) + 2 + 37), fun w9 hS => by (go_simp; first | rfl | exact IntWalk.i64_in _ (by omega) | (rw [IntWalk.i64_in _ (by have := N2.out; omega)]; have := N2.out; omega) | (have := N2.out; omega)), ?_⟩
        simp only [Act.put, List.setIfInBounds_toArray, List.set_cons_zero, List.set_cons_succ]
        iterate 2 (refine wpSeq_read rfl rfl ⟨?_, fun w9 hS => ?_, ?_⟩; rotate_left; (focus (have q1 := FA.out w9 hS; have q2 := FB.out w9 hS; go_simp; (try go_bits); try rfl)); simp only [Act.put, List.setIfInBounds_toArray, List.set_cons_zero, List.set_cons_succ])
        refine wpSeq_read rfl rfl ⟨.int .i64 (5 * (q : Int)), fun w9 hS => by (go_simp; first | rfl | exact IntWalk.i64_in _ (by omega) | (rw [IntWalk.i64_in _ (by have := N2.out; omega)]; have := N2.out; omega) | (have := N2.out; omega)), ?_⟩
        simp only [Act.put, List.setIfInBounds_toArray, List.set_cons_zero, List.set_cons_succ]
        refine wpSeq_read rfl rfl ⟨.int .i64 ((s : Int) + 2 + 37 + 5 * (q : Int)), fun w9 hS => by (go_simp; first | rfl | exact IntWalk.i64_in _ (by omega) | (rw [IntWalk.i64_in _ (by have := N2.out; omega)]; have := N2.out; omega) | (have := N2.out; omega)), ?_⟩
        simp only [Act.put, List.setIfInBounds_toArray, List.set_cons_zero, List.set_cons_succ]
        refine wpSeq_read rfl rfl ⟨.bool true, fun w9 hS => by (have hnn := N2.out; go_simp; first | rfl | omega | (simp; omega)), ?_⟩
        simp only [Act.put, List.setIfInBounds_toArray, List.set_cons_zero, List.set_cons_succ]
        iterate 6 (refine wpSeq_read rfl rfl ⟨?_, fun w9 hS => ?_, ?_⟩; rotate_left; (focus (have q1 := FA.out w9 hS; have q2 := FB.out w9 hS; go_simp; (try go_bits); try rfl)); simp only [Act.put, List.setIfInBounds_toArray, List.set_cons_zero, List.set_cons_succ])
        refine wpSeq_read rfl rfl ⟨.int .i64 ((39 + 5 * q : Nat) : Int), fun w9 hS => by (go_simp; first | rfl | exact IntWalk.i64_in _ (by omega) | (rw [IntWalk.i64_in _ (by have := N2.out; omega)]; have := N2.out; omega) | (have := N2.out; omega)), ?_⟩
        simp only [Act.put, List.setIfInBounds_toArray, List.set_cons_zero, List.set_cons_succ]
        refine wpSeq_read rfl rfl ⟨.slice (some ⟨b2, o2 + (39 + 5 * q), none⟩) s (c2 - (39 + 5 * q)), fun w9 hS => by (go_simp; rw [if_pos ⟨by omega, by omega⟩, show (39 + 5 * (q : Int)).toNat = 39 + 5 * q from by omega, if_neg hcne, hsub]), ?_⟩
        simp only [Act.put, List.setIfInBounds_toArray, List.set_cons_zero, List.set_cons_succ]
        iterate 6 (refine wpSeq_read rfl rfl ⟨?_, fun w9 hS => ?_, ?_⟩; rotate_left; (focus (have q1 := FA.out w9 hS; have q2 := FB.out w9 hS; go_simp; (try go_bits); try rfl)); simp only [Act.put, List.setIfInBounds_toArray, List.set_cons_zero, List.set_cons_succ])
        refine wpSeq_write rfl rfl ?_
        go_simp
        refine (known18 _).mono ?_
        rintro e w9 ⟨rfl, hb9⟩
        have B9 : Below w6.heap.size w6 w9 := (Below.refl _ _).drew.trans hb9
        have S2 : Hid (S w9) := (HSS.out _).mpr B9
        refine ⟨by first | exact S2.out | exact fun _ => S2.out, ?_⟩
        iterate 2 (refine wpSeq_read rfl rfl ⟨?_, fun w9 hS => ?_, ?_⟩; rotate_left; (focus (have q1 := FA.out w9 hS; have q2 := FB.out w9 hS; go_simp; (try go_bits); try rfl)); simp only [Act.put, List.setIfInBounds_toArray, List.set_cons_zero, List.set_cons_succ])
        refine wpSeq_nil ?_
        have HB := Lib.hid (B6.trans (B9.mono B6.size))
        clear B6 B9 hb9
        go_wp2
        go_ret
        exact ⟨rfl, HB.out⟩
  · obtain ⟨lf, hlf⟩ : ∃ lf, lf = leaf := ⟨_, rfl⟩
    have hlf2 : Reads W W.heap.size 1 Al n (byv lf) := by rw [hlf]; exact hla
    have hlfk : lf.length = n := reads_bytes_le hlf2
    have HLF := Lib.hid hlfk
    have hK : n ≤ cl := hlc
    have hK2 : n ≤ 256 := by omega
    clear hlf hlfk hla
    go_wp2
    go_loopw [7, 8] (fun l i wr => ∃ k : Nat, k ≤ m ∧ k ≤ 4 ∧ i = .int .i64 k ∧ OwnC wr W.heap.size l (cutc cs k) ∧ Below W.heap.size W wr) (fun _ i _ => m - (intOf i).toNat)
    case atStart => exact ⟨0, by omega, by omega, rfl, OwnC.nil _ _, Below.refl _ _⟩
    case round =>
      obtain ⟨k, hk, hk4, rfl, hown, hb⟩ := hrel
      by_cases hlt : k < m
      · by_cases hlt4 : k < 4
        · have hx : cs[k]? = some (cs[k]'(by rw [HM.out]; exact hlt)) := List.getElem?_eq_getElem _
          obtain ⟨x, hxe⟩ : ∃ x, cs[k]'(by rw [HM.out]; exact hlt) = x := ⟨_, rfl⟩
          rw [hxe] at hx
          obtain ⟨q0, q1⟩ := cavv_at cs k x hx
          obtain ⟨b, o, rfl, hab, hcell⟩ := (hca.below hb).mid (by omega) (by omega)
          have m1 := hcell _ _ q1
          rw [← Nat.add_assoc] at m1
          have hcl := cutc_len cs k (by rw [HM.out]; exact hk)
          have hbs := hb.size
          have HX := Lib.hid hx
          clear hx hxe q0 q1 hcell
          go_wp2_with (at_builtin; refine append_cavs rfl _ _ rfl W.heap.size _ _ rfl (hown.alloc (.cells (cavv [((1 : Int), x.2)]).toArray 41)) _ 1 1 [((1 : Int), x.2)] rfl (reads_cav wr x.2) (by omega) (by simp only [alloc_size]; omega) ?_)
          intro v2 w2 hown2 hb2 hg2
          have HO := Lib.hid hown2
          have HB := Lib.hid ((hb.alloc hbs (.cells (cavv [((1 : Int), x.2)]).toArray 41)).trans hb2)
          clear hown2 hb2 hg2 hown hb m1 hcl
          go_wp2
          go_roundw
          case rel => exact ⟨k + 1, by omega, by omega, by go_num, by rw [cutc_snoc cs k x HX.out]; exact HO.out, HB.out⟩
          case measure => simp [intOf]; omega
        · obtain ⟨Av, q, cv, rfl, hq, hqc, hqm, hrv⟩ := hown.sl
          have hl := cutc_len cs k (by rw [HM.out]; exact hk)
          have hone := cutc_one cs k
          have hcn2 := cutc_n cs k HCN.out
          obtain ⟨Lc, hLc⟩ : ∃ Lc, cutc cs k = Lc := ⟨_, rfl⟩
          rw [hLc] at hq hl hone hcn2 hrv hown
          have hq4 : q ≤ 4 := by omega
          obtain ⟨Bb, E, p1, p2, p3, p4, p5⟩ := szReq_enc i lf Lc hi12 (by rw [HLF.out]; exact hK2) (by omega) hone
          have kb := fun w' h => request_body (szReq i lf Lc) (.slice Av q cv) Al cl w' (szReq_fit i lf Lc) h (by show lf.length ≤ cl; rw [HLF.out]; exact hK) hcl
          have ke := fun w' h1 h2 => request_encode (szReq i lf Lc) Av cv Al cl w' (szReq_fit i lf Lc) h1 (by show lf.length ≤ cl; rw [HLF.out]; exact hK) hcl h2 (by show Lc.length ≤ cv; omega) hqm (by show 0 < 4294967296; omega) hcn2
          simp only [show (szReq i lf Lc).leaf = lf from rfl, show (szReq i lf Lc).cavs = Lc from rfl, HLF.out, ← hq, p1, p3] at kb ke
          have e0 : (reqv (szReq i lf Lc) (.slice Av q cv) (.slice Al n cl)).toArray = #[.int .i64 (1 + (i : Int)), .int .u32 0, .slice Av q cv, .int .u8 0, .int .u8 0, .int .u8 0, .int .u8 0, .int .u8 0, .int .u8 0, .int .u8 0, .int .u8 0, .int .u8 0, .int .u8 0, .int .u8 0, .int .u8 0, .int .u8 0, .int .u8 0, .int .u8 0, .int .u8 0, .int .u8 0, .int .u8 0, .int .u8 0, .int .u8 0, .int .u8 0, .int .u8 0, .int .u8 0, .int .u8 0, .int .u8 0, .int .u8 0, .int .u8 0, .int .u8 0, .int .u8 0, .int .u8 0, .int .u8 0, .int .u8 0, .int .i64 0, .int .i64 0, .int .i64 0, .int .i64 0, .int .i64 0, .int .u32 0, .int .u64 0, .int .u64 0, .int .u32 0, .int .u32 0, .int .u32 0, .int .u64 0, .slice Al n cl] := rfl
          rw [HLF.out] at p2 p4
          obtain ⟨M, hM⟩ : ∃ M, reqv (szReq i lf Lc) (.slice Av q cv) (.slice Al n cl) = M := ⟨_, rfl⟩
          have hlenM := reqv_len (szReq i lf Lc) (.slice Av q cv) (.slice Al n cl) rfl
          have honeM := reqv_one (szReq i lf Lc) (.slice Av q cv) (.slice Al n cl) rfl rfl
          rw [hM] at e0 hlenM honeM
          simp only [hM] at kb ke
          have HI2 := Lib.hid (show (Try.prog.info? 31).map (·.size) = some M.toArray.size by rw [List.size_toArray, hlenM]; exact Try.req_info)
          have HLM := Lib.hid hlenM
          have HO2 := Lib.hid (all_oneCell_toArray honeM)
          have KB := Lib.hid kb
          have KE := Lib.hid ke
          have E0 := Lib.hid e0
          have HI := Lib.hid (show (Try.prog.info? 31).map (·.size) = some M.length by rw [hlenM]; exact Try.req_info)
          have Hq := Lib.hid hq
          have P2 := Lib.hid p2
          have P4 := Lib.hid p4
          have P5 := Lib.hid p5
          have Hl := Lib.hid hl
          clear hM hlenM honeM kb ke e0 p1 p2 p3 p4 p5 hl hq hone hcn2 hLc
          have hlw := hlf2.call hb
          have z : Blk (wr.alloc (.cells #[.int .i64 0, .int .u32 0, .slice none 0 0, .int .u8 0, .int .u8 0, .int .u8 0, .int .u8 0, .int .u8 0, .int .u8 0, .int .u8 0, .int .u8 0, .int .u8 0, .int .u8 0, .int .u8 0, .int .u8 0, .int .u8 0, .int .u8 0, .int .u8 0, .int .u8 0, .int .u8 0, .int .u8 0, .int .u8 0, .int .u8 0, .int .u8 0, .int .u8 0, .int .u8 0, .int .u8 0, .int .u8 0, .int .u8 0, .int .u8 0, .int .u8 0, .int .u8 0, .int .u8 0, .int .u8 0, .int .u8 0, .int .i64 0, .int .i64 0, .int .i64 0, .int .i64 0, .int .i64 0, .int .u32 0, .int .u64 0, .int .u64 0, .int .u32 0, .int .u32 0, .int .u32 0, .int .u64 0, .slice none 0 0] 31)) wr.heap.size 31 #[.int .i64 0, .int .u32 0, .slice none 0 0, .int .u8 0, .int .u8 0, .int .u8 0, .int .u8 0, .int .u8 0, .int .u8 0, .int .u8 0, .int .u8 0, .int .u8 0, .int .u8 0, .int .u8 0, .int .u8 0, .int .u8 0, .int .u8 0, .int .u8 0, .int .u8 0, .int .u8 0, .int .u8 0, .int .u8 0, .int .u8 0, .int .u8 0, .int .u8 0, .int .u8 0, .int .u8 0, .int .u8 0, .int .u8 0, .int .u8 0, .int .u8 0, .int .u8 0, .int .u8 0, .int .u8 0, .int .u8 0, .int .i64 0, .int .i64 0, .int .i64 0, .int .i64 0, .int .i64 0, .int .u32 0, .int .u64 0, .int .u64 0, .int .u32 0, .int .u32 0, .int .u32 0, .int .u64 0, .slice none 0 0] := Blk.new _ _ _
          have B9 : Below wr.heap.size wr ((wr.alloc (.cells #[.int .i64 0, .int .u32 0, .slice none 0 0, .int .u8 0, .int .u8 0, .int .u8 0, .int .u8 0, .int .u8 0, .int .u8 0, .int .u8 0, .int .u8 0, .int .u8 0, .int .u8 0, .int .u8 0, .int .u8 0, .int .u8 0, .int .u8 0, .int .u8 0, .int .u8 0, .int .u8 0, .int .u8 0, .int .u8 0, .int .u8 0, .int .u8 0, .int .u8 0, .int .u8 0, .int .u8 0, .int .u8 0, .int .u8 0, .int .u8 0, .int .u8 0, .int .u8 0, .int .u8 0, .int .u8 0, .int .u8 0, .int .i64 0, .int .i64 0, .int .i64 0, .int .i64 0, .int .i64 0, .int .u32 0, .int .u64 0, .int .u64 0, .int .u32 0, .int .u32 0, .int .u32 0, .int .u64 0, .slice none 0 0] 31)).setRow wr.heap.size M.toArray) := below_setRow ((Below.refl _ _).alloc (Nat.le_refl _) _) (Nat.le_refl _) _
          have zz := z.setRow M.toArray
          have hsm := zz.lt
          obtain ⟨w3, hw3⟩ : ∃ w3, (wr.alloc (.cells #[.int .i64 0, .int .u32 0, .slice none 0 0, .int .u8 0, .int .u8 0, .int .u8 0, .int .u8 0, .int .u8 0, .int .u8 0, .int .u8 0, .int .u8 0, .int .u8 0, .int .u8 0, .int .u8 0, .int .u8 0, .int .u8 0, .int .u8 0, .int .u8 0, .int .u8 0, .int .u8 0, .int .u8 0, .int .u8 0, .int .u8 0, .int .u8 0, .int .u8 0, .int .u8 0, .int .u8 0, .int .u8 0, .int .u8 0, .int .u8 0, .int .u8 0, .int .u8 0, .int .u8 0, .int .u8 0, .int .u8 0, .int .i64 0, .int .i64 0, .int .i64 0, .int .i64 0, .int .i64 0, .int .u32 0, .int .u64 0, .int .u64 0, .int .u32 0, .int .u32 0, .int .u32 0, .int .u64 0, .slice none 0 0] 31)).setRow wr.heap.size M.toArray = w3 := ⟨_, rfl⟩
          rw [hw3] at B9 zz hsm
          have HW3 := Lib.hid hw3
          have hlw3 := hlw.call B9
          have hrv3 := hrv.call B9
          have B3 := hb.trans (B9.mono hb.size)
          clear hw3 hown hb B9 hlw hrv
          go_upto_region 10 with (refine wpList_store_row rfl 31 (.tmp 9) (.tmp 46) rfl wr.heap.size M.toArray rfl (show _ = Value.agg M.toArray by rw [E0.out]; rfl) 31 _ z HI2.out (by simp [HLM.out]) HO2.out ?_; rw [HW3.out])
          have hz3 : Blk (w3.alloc (.cells #[.int .i64 (4 + (n : Int)), .int .i64 2, .int .i64 10, .int .i64 18, .int .i64 18, .int .i64 4, .int .i64 3, .int .i64 3, .int .i64 2, .int .i64 11, .int .i64 5, .int .i64 14] 3)) w3.heap.size 3 _ := Blk.new _ _ _
          have cS : (w3.alloc (.cells #[.int .i64 (4 + (n : Int)), .int .i64 2, .int .i64 10, .int .i64 18, .int .i64 18, .int .i64 4, .int .i64 3, .int .i64 3, .int .i64 2, .int .i64 11, .int .i64 5, .int .i64 14] 3)).cell? ⟨w3.heap.size, i, none⟩ = some (.int .i64 (szI i n : Int)) := (hz3.cell i).trans (by have := szI_at i n hi12; simpa using this)
          obtain ⟨s1, s2⟩ := szI_bd i n hi12 hK2
          obtain ⟨s, hs⟩ : ∃ s, szI i n = s := ⟨_, rfl⟩
          rw [hs] at cS s1 s2
          have HS := Lib.hid hs
          clear hs hz3 z
          go_upto_region 11 with (fail)
          have B9 : Below w3.heap.size w3 (w3.alloc (.cells #[.int .i64 (4 + (n : Int)), .int .i64 2, .int .i64 10, .int .i64 18, .int .i64 18, .int .i64 4, .int .i64 3, .int .i64 3, .int .i64 2, .int .i64 11, .int .i64 5, .int .i64 14] 3)) := (Below.refl _ _).alloc (Nat.le_refl _) _
          obtain ⟨w4, hw4⟩ : ∃ w4, w3.alloc (.cells #[.int .i64 (4 + (n : Int)), .int .i64 2, .int .i64 10, .int .i64 18, .int .i64 18, .int .i64 4, .int .i64 3, .int .i64 3, .int .i64 2, .int .i64 11, .int .i64 5, .int .i64 14] 3) = w4 := ⟨_, rfl⟩
          rw [hw4] at B9 ⊢
          have zz4 := zz.below B9 hsm
          have hlw4 := hlw3.call B9
          have hrv4 := hrv3.call B9
          have B4 := B3.trans (B9.mono B3.size)
          have HRG := Lib.hid (rangeAt_blk zz4 0 M (fun j u h => by simpa using h))
          clear hw4 cS B9 zz hlw3 hrv3 B3 hsm
          go_wp2_with (refine load_mid_want rfl 31 (.tmp 9) rfl wr.heap.size 0 rfl M _ HRG.out Try.underlying31 rfl HI.out ?_)
          refine (KB.out _ hlw4).mono ?_
          rintro e w5 ⟨va, rfl, hoa, hb5⟩
          have hoa5 : OwnB w5 _ va Bb := hoa
          have zz5 := zz4.below hb5 zz4.lt
          have hlw5 := hlw4.call hb5
          have hrv5 := hrv4.call hb5
          have B5 := B4.trans (hb5.mono B4.size)
          have HRG := Lib.hid (rangeAt_blk zz5 0 M (fun j u h => by simpa using h))
          clear hoa zz4 hlw4 hrv4 B4 hb5
          go_wp2_with (refine load_mid_want rfl 31 (.tmp 9) rfl wr.heap.size 0 rfl M _ HRG.out Try.underlying31 rfl HI.out ?_)
          refine (KE.out _ hlw5 hrv5).mono ?_
          rintro e w6 ⟨vb, rfl, hob, hb6⟩
          have hob6 : OwnB w6 _ vb E := hob
          have hoa6 := hoa5.kept hb6
          have B6 := B5.trans (hb6.mono B5.size)
          clear hob hoa5 zz5 hlw5 hrv5 B5 hb6 HRG
          obtain ⟨A1, n1, c1, rfl, -, -, ra⟩ := hoa6.sl
          obtain ⟨A2, n2, c2, rfl, hc2, hm2, rb⟩ := hob6.sl
          have l1 := reads_bytes_le ra
          have l2 := reads_bytes_le rb
          rw [P2.out, HS.out] at l1
          rw [P4.out, HS.out] at l2
          have hqe := Hq.out
          rw [← hqe] at l2
          subst l1
          have p5 := P5.out
          rw [← hqe] at p5
          obtain ⟨b2, o2, rfl, hb2, hcell2⟩ := rb.mid (by omega) (by omega)
          have rt : Reads w6 w6.heap.size 1 (some ⟨b2, o2 + (39 + 5 * q), none⟩) s (byv Bb) := by
            refine ⟨by have := ra.1; exact this, fun _ => ⟨_, rfl, hb2, fun j u hu => ?_⟩⟩
            rw [Addr.add_mid, Nat.add_assoc]
            refine hcell2 _ u ?_
            rw [← p5, show byv (E.drop (39 + 5 * q)) = (byv E).drop (39 + 5 * q) by simp [byv], List.getElem?_drop] at hu
            exact hu
          obtain ⟨S, HSS⟩ : ∃ S : World → Prop, Hid (∀ w', S w' = Below w6.heap.size w6 w') := ⟨_, fun _ => rfl⟩
          have FA : Hid (∀ w', S w' → (convert 29 9 (.slice A1 s c1)).run Try.prog w' = .ok (.string (bstr Bb)) w') := fun w' h => run_str (ra.below ((HSS.out w').mp h))
          have FB : Hid (∀ w', S w' → (convert 29 9 (.slice (some ⟨b2, o2 + (39 + 5 * q), none⟩) s (c2 - (39 + 5 * q)))).run Try.prog w' = .ok (.string (bstr Bb)) w') := fun w' h => run_str (rt.below ((HSS.out w').mp h))
          have S0 : Hid (S w6.drew) := (HSS.out _).mpr (Below.refl _ _).drew
          unfold maxLen at hm2
          have N2 := Lib.hid l2
          have hn2 : n2 ≤ 400 := by omega
          have hcne : ¬ c2 = 39 + 5 * q := by omega
          have hle1 : ((39 + 5 * q : Nat) : Int) ≤ n2 := by omega
          have hsub : n2 - (39 + 5 * q) = s := by omega
          clear ra rb rt l2 p5 hqe hcell2 hoa6 hob6
          go_wp2_with fail
          refine wp_region_seq S 40 [(0, false), (1, false), (2, false), (3, false), (4, false), (5, false), (6, false), (7, false), (8, false), (9, false), (10, false), (11, false), (12, false), (13, false), (14, false), (15, false), (16, false), (17, false), (18, false), (19, false), (20, false), (21, false), (22, false), (23, false), (24, false), (25, false), (26, false), (27, false), (28, false), (29, false), (30, false), (31, false), (32, false), (33, false), (34, false), (35, false), (36, false), (37, true), (38, false), (39, false)] (by kernel_rfl) rfl (by kernel_rfl) (by kernel_rfl) (by kernel_rfl) (fun _ _ d _ _ h => by cases d <;> exact h) S0.out ?_
          iterate 16 (refine wpSeq_read rfl rfl ⟨?_, fun w9 hS => ?_, ?_⟩; rotate_left; (focus (have q1 := FA.out w9 hS; have q2 := FB.out w9 hS; go_simp; (try go_bits); try rfl)); simp only [Act.put, List.setIfInBounds_toArray, List.set_cons_zero, List.set_cons_succ])
          refine wpSeq_read rfl rfl ⟨.int .i64 ((s : Int) + 2), fun w9 hS => by (go_simp; first | rfl | exact IntWalk.i64_in _ (by omega) | (rw [IntWalk.i64_in _ (by have := N2.out; omega)]; have := N2.out; omega) | (have := N2.out; omega)), ?_⟩
          simp only [Act.put, List.setIfInBounds_toArray, List.set_cons_zero, List.set_cons_succ]
          refine wpSeq_read rfl rfl ⟨.int .i64 ((s : Int) + 2 + 37), fun w9 hS => by (go_simp; first | rfl | exact IntWalk.i64_in _ (by omega) | (rw [IntWalk.i64_in _ (by have := N2.out; omega)]; have := N2.out; omega) | (have := N2.out; omega)), ?_⟩
          simp only [Act.put, List.setIfInBounds_toArray, List.set_cons_zero, List.set_cons_succ]
          iterate 2 (refine wpSeq_read rfl rfl ⟨?_, fun w9 hS => ?_, ?_⟩; rotate_left; (focus (have q1 := FA.out w9 hS; have q2 := FB.out w9 hS; go_simp; (try go_bits); try rfl)); simp only [Act.put, List.setIfInBounds_toArray, List.set_cons_zero, List.set_cons_succ])
          refine wpSeq_read rfl rfl ⟨.int .i64 (5 * (q : Int)), fun w9 hS => by (go_simp; first | rfl | exact IntWalk.i64_in _ (by omega) | (rw [IntWalk.i64_in _ (by have := N2.out; omega)]; have := N2.out; omega) | (have := N2.out; omega)), ?_⟩
          simp only [Act.put, List.setIfInBounds_toArray, List.set_cons_zero, List.set_cons_succ]
          refine wpSeq_read rfl rfl ⟨.int .i64 ((s : Int) + 2 + 37 + 5 * (q : Int)), fun w9 hS => by (go_simp; first | rfl | exact IntWalk.i64_in _ (by omega) | (rw [IntWalk.i64_in _ (by have := N2.out; omega)]; have := N2.out; omega) | (have := N2.out; omega)), ?_⟩
          simp only [Act.put, List.setIfInBounds_toArray, List.set_cons_zero, List.set_cons_succ]
          refine wpSeq_read rfl rfl ⟨.bool true, fun w9 hS => by (have hnn := N2.out; go_simp; first | rfl | omega | (simp; omega)), ?_⟩
          simp only [Act.put, List.setIfInBounds_toArray, List.set_cons_zero, List.set_cons_succ]
          iterate 6 (refine wpSeq_read rfl rfl ⟨?_, fun w9 hS => ?_, ?_⟩; rotate_left; (focus (have q1 := FA.out w9 hS; have q2 := FB.out w9 hS; go_simp; (try go_bits); try rfl)); simp only [Act.put, List.setIfInBounds_toArray, List.set_cons_zero, List.set_cons_succ])
          refine wpSeq_read rfl rfl ⟨.int .i64 ((39 + 5 * q : Nat) : Int), fun w9 hS => by (go_simp; first | rfl | exact IntWalk.i64_in _ (by omega) | (rw [IntWalk.i64_in _ (by have := N2.out; omega)]; have := N2.out; omega) | (have := N2.out; omega)), ?_⟩
          simp only [Act.put, List.setIfInBounds_toArray, List.set_cons_zero, List.set_cons_succ]
          refine wpSeq_read rfl rfl ⟨.slice (some ⟨b2, o2 + (39 + 5 * q), none⟩) s (c2 - (39 + 5 * q)), fun w9 hS => by (go_simp; rw [if_pos ⟨by omega, by omega⟩, show (39 + 5 * (q : Int)).toNat = 39 + 5 * q from by omega, if_neg hcne, hsub]), ?_⟩
          simp only [Act.put, List.setIfInBounds_toArray, List.set_cons_zero, List.set_cons_succ]
          iterate 6 (refine wpSeq_read rfl rfl ⟨?_, fun w9 hS => ?_, ?_⟩; rotate_left; (focus (have q1 := FA.out w9 hS; have q2 := FB.out w9 hS; go_simp; (try go_bits); try rfl)); simp only [Act.put, List.setIfInBounds_toArray, List.set_cons_zero, List.set_cons_succ])
          refine wpSeq_write rfl rfl ?_
          go_simp
          refine (known18 _).mono ?_
          rintro e w9 ⟨rfl, hb9⟩
          have B9 : Below w6.heap.size w6 w9 := (Below.refl _ _).drew.trans hb9
          have S2 : Hid (S w9) := (HSS.out _).mpr B9
          refine ⟨by first | exact S2.out | exact fun _ => S2.out, ?_⟩
          iterate 2 (refine wpSeq_read rfl rfl ⟨?_, fun w9 hS => ?_, ?_⟩; rotate_left; (focus (have q1 := FA.out w9 hS; have q2 := FB.out w9 hS; go_simp; (try go_bits); try rfl)); simp only [Act.put, List.setIfInBounds_toArray, List.set_cons_zero, List.set_cons_succ])
          refine wpSeq_nil ?_
          have HB := Lib.hid (B6.trans (B9.mono B6.size))
          clear B6 B9 hb9
          go_wp2
          go_ret
          exact ⟨rfl, HB.out⟩
      · obtain ⟨Av, q, cv, rfl, hq, hqc, hqm, hrv⟩ := hown.sl
        have hl := cutc_len cs k (by rw [HM.out]; exact hk)
        have hone := cutc_one cs k
        have hcn2 := cutc_n cs k HCN.out
        obtain ⟨Lc, hLc⟩ : ∃ Lc, cutc cs k = Lc := ⟨_, rfl⟩
        rw [hLc] at hq hl hone hcn2 hrv hown
        have hq4 : q ≤ 4 := by omega
        obtain ⟨Bb, E, p1, p2, p3, p4, p5⟩ := szReq_enc i lf Lc hi12 (by rw [HLF.out]; exact hK2) (by omega) hone
        have kb := fun w' h => request_body (szReq i lf Lc) (.slice Av q cv) Al cl w' (szReq_fit i lf Lc) h (by show lf.length ≤ cl; rw [HLF.out]; exact hK) hcl
        have ke := fun w' h1 h2 => request_encode (szReq i lf Lc) Av cv Al cl w' (szReq_fit i lf Lc) h1 (by show lf.length ≤ cl; rw [HLF.out]; exact hK) hcl h2 (by show Lc.length ≤ cv; omega) hqm (by show 0 < 4294967296; omega) hcn2
        simp only [show (szReq i lf Lc).leaf = lf from rfl, show (szReq i lf Lc).cavs = Lc from rfl, HLF.out, ← hq, p1, p3] at kb ke
        have e0 : (reqv (szReq i lf Lc) (.slice Av q cv) (.slice Al n cl)).toArray = #[.int .i64 (1 + (i : Int)), .int .u32 0, .slice Av q cv, .int .u8 0, .int .u8 0, .int .u8 0, .int .u8 0, .int .u8 0, .int .u8 0, .int .u8 0, .int .u8 0, .int .u8 0, .int .u8 0, .int .u8 0, .int .u8 0, .int .u8 0, .int .u8 0, .int .u8 0, .int .u8 0, .int .u8 0, .int .u8 0, .int .u8 0, .int .u8 0, .int .u8 0, .int .u8 0, .int .u8 0, .int .u8 0, .int .u8 0, .int .u8 0, .int .u8 0, .int .u8 0, .int .u8 0, .int .u8 0, .int .u8 0, .int .u8 0, .int .i64 0, .int .i64 0, .int .i64 0, .int .i64 0, .int .i64 0, .int .u32 0, .int .u64 0, .int .u64 0, .int .u32 0, .int .u32 0, .int .u32 0, .int .u64 0, .slice Al n cl] := rfl
        rw [HLF.out] at p2 p4
        obtain ⟨M, hM⟩ : ∃ M, reqv (szReq i lf Lc) (.slice Av q cv) (.slice Al n cl) = M := ⟨_, rfl⟩
        have hlenM := reqv_len (szReq i lf Lc) (.slice Av q cv) (.slice Al n cl) rfl
        have honeM := reqv_one (szReq i lf Lc) (.slice Av q cv) (.slice Al n cl) rfl rfl
        rw [hM] at e0 hlenM honeM
        simp only [hM] at kb ke
        have HI2 := Lib.hid (show (Try.prog.info? 31).map (·.size) = some M.toArray.size by rw [List.size_toArray, hlenM]; exact Try.req_info)
        have HLM := Lib.hid hlenM
        have HO2 := Lib.hid (all_oneCell_toArray honeM)
        have KB := Lib.hid kb
        have KE := Lib.hid ke
        have E0 := Lib.hid e0
        have HI := Lib.hid (show (Try.prog.info? 31).map (·.size) = some M.length by rw [hlenM]; exact Try.req_info)
        have Hq := Lib.hid hq
        have P2 := Lib.hid p2
        have P4 := Lib.hid p4
        have P5 := Lib.hid p5
        have Hl := Lib.hid hl
        clear hM hlenM honeM kb ke e0 p1 p2 p3 p4 p5 hl hq hone hcn2 hLc
        have hlw := hlf2.call hb
        have z : Blk (wr.alloc (.cells #[.int .i64 0, .int .u32 0, .slice none 0 0, .int .u8 0, .int .u8 0, .int .u8 0, .int .u8 0, .int .u8 0, .int .u8 0, .int .u8 0, .int .u8 0, .int .u8 0, .int .u8 0, .int .u8 0, .int .u8 0, .int .u8 0, .int .u8 0, .int .u8 0, .int .u8 0, .int .u8 0, .int .u8 0, .int .u8 0, .int .u8 0, .int .u8 0, .int .u8 0, .int .u8 0, .int .u8 0, .int .u8 0, .int .u8 0, .int .u8 0, .int .u8 0, .int .u8 0, .int .u8 0, .int .u8 0, .int .u8 0, .int .i64 0, .int .i64 0, .int .i64 0, .int .i64 0, .int .i64 0, .int .u32 0, .int .u64 0, .int .u64 0, .int .u32 0, .int .u32 0, .int .u32 0, .int .u64 0, .slice none 0 0] 31)) wr.heap.size 31 #[.int .i64 0, .int .u32 0, .slice none 0 0, .int .u8 0, .int .u8 0, .int .u8 0, .int .u8 0, .int .u8 0, .int .u8 0, .int .u8 0, .int .u8 0, .int .u8 0, .int .u8 0, .int .u8 0, .int .u8 0, .int .u8 0, .int .u8 0, .int .u8 0, .int .u8 0, .int .u8 0, .int .u8 0, .int .u8 0, .int .u8 0, .int .u8 0, .int .u8 0, .int .u8 0, .int .u8 0, .int .u8 0, .int .u8 0, .int .u8 0, .int .u8 0, .int .u8 0, .int .u8 0, .int .u8 0, .int .u8 0, .int .i64 0, .int .i64 0, .int .i64 0, .int .i64 0, .int .i64 0, .int .u32 0, .int .u64 0, .int .u64 0, .int .u32 0, .int .u32 0, .int .u32 0, .int .u64 0, .slice none 0 0] := Blk.new _ _ _
        have B9 : Below wr.heap.size wr ((wr.alloc (.cells #[.int .i64 0, .int .u32 0, .slice none 0 0, .int .u8 0, .int .u8 0, .int .u8 0, .int .u8 0, .int .u8 0, .int .u8 0, .int .u8 0, .int .u8 0, .int .u8 0, .int .u8 0, .int .u8 0, .int .u8 0, .int .u8 0, .int .u8 0, .int .u8 0, .int .u8 0, .int .u8 0, .int .u8 0, .int .u8 0, .int .u8 0, .int .u8 0, .int .u8 0, .int .u8 0, .int .u8 0, .int .u8 0, .int .u8 0, .int .u8 0, .int .u8 0, .int .u8 0, .int .u8 0, .int .u8 0, .int .u8 0, .int .i64 0, .int .i64 0, .int .i64 0, .int .i64 0, .int .i64 0, .int .u32 0, .int .u64 0, .int .u64 0, .int .u32 0, .int .u32 0, .int .u32 0, .int .u64 0, .slice none 0 0] 31)).setRow wr.heap.size M.toArray) := below_setRow ((Below.refl _ _).alloc (Nat.le_refl _) _) (Nat.le_refl _) _
        have zz := z.setRow M.toArray
        have hsm := zz.lt
        obtain ⟨w3, hw3⟩ : ∃ w3, (wr.alloc (.cells #[.int .i64 0, .int .u32 0, .slice none 0 0, .int .u8 0, .int .u8 0, .int .u8 0, .int .u8 0, .int .u8 0, .int .u8 0, .int .u8 0, .int .u8 0, .int .u8 0, .int .u8 0, .int .u8 0, .int .u8 0, .int .u8 0, .int .u8 0, .int .u8 0, .int .u8 0, .int .u8 0, .int .u8 0, .int .u8 0, .int .u8 0, .int .u8 0, .int .u8 0, .int .u8 0, .int .u8 0, .int .u8 0, .int .u8 0, .int .u8 0, .int .u8 0, .int .u8 0, .int .u8 0, .int .u8 0, .int .u8 0, .int .i64 0, .int .i64 0, .int .i64 0, .int .i64 0, .int .i64 0, .int .u32 0, .int .u64 0, .int .u64 0, .int .u32 0, .int .u32 0, .int .u32 0, .int .u64 0, .slice none 0 0] 31)).setRow wr.heap.size M.toArray = w3 := ⟨_, rfl⟩
        rw [hw3] at B9 zz hsm
        have HW3 := Lib.hid hw3
        have hlw3 := hlw.call B9
        have hrv3 := hrv.call B9
        have B3 := hb.trans (B9.mono hb.size)
        clear hw3 hown hb B9 hlw hrv
        go_upto_region 10 with (refine wpList_store_row rfl 31 (.tmp 9) (.tmp 46) rfl wr.heap.size M.toArray rfl (show _ = Value.agg M.toArray by rw [E0.out]; rfl) 31 _ z HI2.out (by simp [HLM.out]) HO2.out ?_; rw [HW3.out])
        have hz3 : Blk (w3.alloc (.cells #[.int .i64 (4 + (n : Int)), .int .i64 2, .int .i64 10, .int .i64 18, .int .i64 18, .int .i64 4, .int .i64 3, .int .i64 3, .int .i64 2, .int .i64 11, .int .i64 5, .int .i64 14] 3)) w3.heap.size 3 _ := Blk.new _ _ _
        have cS : (w3.alloc (.cells #[.int .i64 (4 + (n : Int)), .int .i64 2, .int .i64 10, .int .i64 18, .int .i64 18, .int .i64 4, .int .i64 3, .int .i64 3, .int .i64 2, .int .i64 11, .int .i64 5, .int .i64 14] 3)).cell? ⟨w3.heap.size, i, none⟩ = some (.int .i64 (szI i n : Int)) := (hz3.cell i).trans (by have := szI_at i n hi12; simpa using this)
        obtain ⟨s1, s2⟩ := szI_bd i n hi12 hK2
        obtain ⟨s, hs⟩ : ∃ s, szI i n = s := ⟨_, rfl⟩
        rw [hs] at cS s1 s2
        have HS := Lib.hid hs
        clear hs hz3 z
        go_upto_region 11 with (fail)
        have B9 : Below w3.heap.size w3 (w3.alloc (.cells #[.int .i64 (4 + (n : Int)), .int .i64 2, .int .i64 10, .int .i64 18, .int .i64 18, .int .i64 4, .int .i64 3, .int .i64 3, .int .i64 2, .int .i64 11, .int .i64 5, .int .i64 14] 3)) := (Below.refl _ _).alloc (Nat.le_refl _) _
        obtain ⟨w4, hw4⟩ : ∃ w4, w3.alloc (.cells #[.int .i64 (4 + (n : Int)), .int .i64 2, .int .i64 10, .int .i64 18, .int .i64 18, .int .i64 4, .int .i64 3, .int .i64 3, .int .i64 2, .int .i64 11, .int .i64 5, .int .i64 14] 3) = w4 := ⟨_, rfl⟩
        rw [hw4] at B9 ⊢
        have zz4 := zz.below B9 hsm
        have hlw4 := hlw3.call B9
        have hrv4 := hrv3.call B9
        have B4 := B3.trans (B9.mono B3.size)
        have HRG := Lib.hid (rangeAt_blk zz4 0 M (fun j u h => by simpa using h))
        clear hw4 cS B9 zz hlw3 hrv3 B3 hsm
        go_wp2_with (refine load_mid_want rfl 31 (.tmp 9) rfl wr.heap.size 0 rfl M _ HRG.out Try.underlying31 rfl HI.out ?_)
        refine (KB.out _ hlw4).mono ?_
        rintro e w5 ⟨va, rfl, hoa, hb5⟩
        have hoa5 : OwnB w5 _ va Bb := hoa
        have zz5 := zz4.below hb5 zz4.lt
        have hlw5 := hlw4.call hb5
        have hrv5 := hrv4.call hb5
        have B5 := B4.trans (hb5.mono B4.size)
        have HRG := Lib.hid (rangeAt_blk zz5 0 M (fun j u h => by simpa using h))
        clear hoa zz4 hlw4 hrv4 B4 hb5
        go_wp2_with (refine load_mid_want rfl 31 (.tmp 9) rfl wr.heap.size 0 rfl M _ HRG.out Try.underlying31 rfl HI.out ?_)
        refine (KE.out _ hlw5 hrv5).mono ?_
        rintro e w6 ⟨vb, rfl, hob, hb6⟩
        have hob6 : OwnB w6 _ vb E := hob
        have hoa6 := hoa5.kept hb6
        have B6 := B5.trans (hb6.mono B5.size)
        clear hob hoa5 zz5 hlw5 hrv5 B5 hb6 HRG
        obtain ⟨A1, n1, c1, rfl, -, -, ra⟩ := hoa6.sl
        obtain ⟨A2, n2, c2, rfl, hc2, hm2, rb⟩ := hob6.sl
        have l1 := reads_bytes_le ra
        have l2 := reads_bytes_le rb
        rw [P2.out, HS.out] at l1
        rw [P4.out, HS.out] at l2
        have hqe := Hq.out
        rw [← hqe] at l2
        subst l1
        have p5 := P5.out
        rw [← hqe] at p5
        obtain ⟨b2, o2, rfl, hb2, hcell2⟩ := rb.mid (by omega) (by omega)
        have rt : Reads w6 w6.heap.size 1 (some ⟨b2, o2 + (39 + 5 * q), none⟩) s (byv Bb) := by
          refine ⟨by have := ra.1; exact this, fun _ => ⟨_, rfl, hb2, fun j u hu => ?_⟩⟩
          rw [Addr.add_mid, Nat.add_assoc]
          refine hcell2 _ u ?_
          rw [← p5, show byv (E.drop (39 + 5 * q)) = (byv E).drop (39 + 5 * q) by simp [byv], List.getElem?_drop] at hu
          exact hu
        obtain ⟨S, HSS⟩ : ∃ S : World → Prop, Hid (∀ w', S w' = Below w6.heap.size w6 w') := ⟨_, fun _ => rfl⟩
        have FA : Hid (∀ w', S w' → (convert 29 9 (.slice A1 s c1)).run Try.prog w' = .ok (.string (bstr Bb)) w') := fun w' h => run_str (ra.below ((HSS.out w').mp h))
        have FB : Hid (∀ w', S w' → (convert 29 9 (.slice (some ⟨b2, o2 + (39 + 5 * q), none⟩) s (c2 - (39 + 5 * q)))).run Try.prog w' = .ok (.string (bstr Bb)) w') := fun w' h => run_str (rt.below ((HSS.out w').mp h))
        have S0 : Hid (S w6.drew) := (HSS.out _).mpr (Below.refl _ _).drew
        unfold maxLen at hm2
        have N2 := Lib.hid l2
        have hn2 : n2 ≤ 400 := by omega
        have hcne : ¬ c2 = 39 + 5 * q := by omega
        have hle1 : ((39 + 5 * q : Nat) : Int) ≤ n2 := by omega
        have hsub : n2 - (39 + 5 * q) = s := by omega
        clear ra rb rt l2 p5 hqe hcell2 hoa6 hob6
        go_wp2_with fail
        refine wp_region_seq S 40 [(0, false), (1, false), (2, false), (3, false), (4, false), (5, false), (6, false), (7, false), (8, false), (9, false), (10, false), (11, false), (12, false), (13, false), (14, false), (15, false), (16, false), (17, false), (18, false), (19, false), (20, false), (21, false), (22, false), (23, false), (24, false), (25, false), (26, false), (27, false), (28, false), (29, false), (30, false), (31, false), (32, false), (33, false), (34, false), (35, false), (36, false), (37, true), (38, false), (39, false)] (by kernel_rfl) rfl (by kernel_rfl) (by kernel_rfl) (by kernel_rfl) (fun _ _ d _ _ h => by cases d <;> exact h) S0.out ?_
        iterate 16 (refine wpSeq_read rfl rfl ⟨?_, fun w9 hS => ?_, ?_⟩; rotate_left; (focus (have q1 := FA.out w9 hS; have q2 := FB.out w9 hS; go_simp; (try go_bits); try rfl)); simp only [Act.put, List.setIfInBounds_toArray, List.set_cons_zero, List.set_cons_succ])
        refine wpSeq_read rfl rfl ⟨.int .i64 ((s : Int) + 2), fun w9 hS => by (go_simp; first | rfl | exact IntWalk.i64_in _ (by omega) | (rw [IntWalk.i64_in _ (by have := N2.out; omega)]; have := N2.out; omega) | (have := N2.out; omega)), ?_⟩
        simp only [Act.put, List.setIfInBounds_toArray, List.set_cons_zero, List.set_cons_succ]
        refine wpSeq_read rfl rfl ⟨.int .i64 ((s : Int) + 2 + 37), fun w9 hS => by (go_simp; first | rfl | exact IntWalk.i64_in _ (by omega) | (rw [IntWalk.i64_in _ (by have := N2.out; omega)]; have := N2.out; omega) | (have := N2.out; omega)), ?_⟩
        simp only [Act.put, List.setIfInBounds_toArray, List.set_cons_zero, List.set_cons_succ]
        iterate 2 (refine wpSeq_read rfl rfl ⟨?_, fun w9 hS => ?_, ?_⟩; rotate_left; (focus (have q1 := FA.out w9 hS; have q2 := FB.out w9 hS; go_simp; (try go_bits); try rfl)); simp only [Act.put, List.setIfInBounds_toArray, List.set_cons_zero, List.set_cons_succ])
        refine wpSeq_read rfl rfl ⟨.int .i64 (5 * (q : Int)), fun w9 hS => by (go_simp; first | rfl | exact IntWalk.i64_in _ (by omega) | (rw [IntWalk.i64_in _ (by have := N2.out; omega)]; have := N2.out; omega) | (have := N2.out; omega)), ?_⟩
        simp only [Act.put, List.setIfInBounds_toArray, List.set_cons_zero, List.set_cons_succ]
        refine wpSeq_read rfl rfl ⟨.int .i64 ((s : Int) + 2 + 37 + 5 * (q : Int)), fun w9 hS => by (go_simp; first | rfl | exact IntWalk.i64_in _ (by omega) | (rw [IntWalk.i64_in _ (by have := N2.out; omega)]; have := N2.out; omega) | (have := N2.out; omega)), ?_⟩
        simp only [Act.put, List.setIfInBounds_toArray, List.set_cons_zero, List.set_cons_succ]
        refine wpSeq_read rfl rfl ⟨.bool true, fun w9 hS => by (have hnn := N2.out; go_simp; first | rfl | omega | (simp; omega)), ?_⟩
        simp only [Act.put, List.setIfInBounds_toArray, List.set_cons_zero, List.set_cons_succ]
        iterate 6 (refine wpSeq_read rfl rfl ⟨?_, fun w9 hS => ?_, ?_⟩; rotate_left; (focus (have q1 := FA.out w9 hS; have q2 := FB.out w9 hS; go_simp; (try go_bits); try rfl)); simp only [Act.put, List.setIfInBounds_toArray, List.set_cons_zero, List.set_cons_succ])
        refine wpSeq_read rfl rfl ⟨.int .i64 ((39 + 5 * q : Nat) : Int), fun w9 hS => by (go_simp; first | rfl | exact IntWalk.i64_in _ (by omega) | (rw [IntWalk.i64_in _ (by have := N2.out; omega)]; have := N2.out; omega) | (have := N2.out; omega)), ?_⟩
        simp only [Act.put, List.setIfInBounds_toArray, List.set_cons_zero, List.set_cons_succ]
        refine wpSeq_read rfl rfl ⟨.slice (some ⟨b2, o2 + (39 + 5 * q), none⟩) s (c2 - (39 + 5 * q)), fun w9 hS => by (go_simp; rw [if_pos ⟨by omega, by omega⟩, show (39 + 5 * (q : Int)).toNat = 39 + 5 * q from by omega, if_neg hcne, hsub]), ?_⟩
        simp only [Act.put, List.setIfInBounds_toArray, List.set_cons_zero, List.set_cons_succ]
        iterate 6 (refine wpSeq_read rfl rfl ⟨?_, fun w9 hS => ?_, ?_⟩; rotate_left; (focus (have q1 := FA.out w9 hS; have q2 := FB.out w9 hS; go_simp; (try go_bits); try rfl)); simp only [Act.put, List.setIfInBounds_toArray, List.set_cons_zero, List.set_cons_succ])
        refine wpSeq_write rfl rfl ?_
        go_simp
        refine (known18 _).mono ?_
        rintro e w9 ⟨rfl, hb9⟩
        have B9 : Below w6.heap.size w6 w9 := (Below.refl _ _).drew.trans hb9
        have S2 : Hid (S w9) := (HSS.out _).mpr B9
        refine ⟨by first | exact S2.out | exact fun _ => S2.out, ?_⟩
        iterate 2 (refine wpSeq_read rfl rfl ⟨?_, fun w9 hS => ?_, ?_⟩; rotate_left; (focus (have q1 := FA.out w9 hS; have q2 := FB.out w9 hS; go_simp; (try go_bits); try rfl)); simp only [Act.put, List.setIfInBounds_toArray, List.set_cons_zero, List.set_cons_succ])
        refine wpSeq_nil ?_
        have HB := Lib.hid (B6.trans (B9.mono B6.size))
        clear B6 B9 hb9
        go_wp2
        go_ret
        exact ⟨rfl, HB.out⟩

theorem law_calls {H : Type} {enc : TypeId × Value → H} {base : Nat} (W : World) (v0 : Value) (d0 : DataW H) (p0 : List MemPlace) (v1 : Value) (d1 : DataW H) (p1 : List MemPlace) (v2 : Value) (d2 : DataW H) (p2 : List MemPlace)
    (o0 : Value.okWide Try.prog W .any base 3 v0) (h0 : DataW.Trod enc Try.prog W 0 (fun _ => true) true 3 v0 d0 p0) (o1 : Value.okWide Try.prog W .any base 29 v1) (h1 : DataW.Trod enc Try.prog W 0 (fun _ => true) true 29 v1 d1 p1) (o2 : Value.okWide Try.prog W .any base 23 v2) (h2 : DataW.Trod enc Try.prog W 0 (fun _ => true) true 23 v2 d2 p2) :
    Calls Try.prog 4 #[v0, v1, v2] W fun e w' => e = .returned (.bool true) ∧ Below W.heap.size W w' := by
  obtain ⟨a0, rfl, -, -, w0⟩ := open_int Try.underlying3 o0 h0
  have b0 := i64_bd w0
  obtain ⟨A1, n1, c1, rfl⟩ := okWide_slice Try.underlying29 o1
  obtain ⟨A2, n2, c2, rfl⟩ := okWide_slice Try.underlying23 o2
  obtain ⟨f1, hf1⟩ := h1
  obtain ⟨f2, hf2⟩ := h2
  obtain ⟨A1', c1', bs, e1, l1, l2, l3, l4⟩ := trod_bytes hf1
  obtain ⟨A2', c2', cs, e2, m1, m2, m3, m4, m5, -⟩ := trod_cavs hf2
  simp [Value.cells] at e1 e2
  obtain ⟨rfl, rfl, rfl⟩ := e1
  obtain ⟨rfl, rfl, rfl⟩ := e2
  exact sizes_walk a0 _ _ _ bs _ _ _ cs W b0.1 b0.2 l4 l1 l2 m5 m1 m2 m3
-- END BY HAND

set_option maxRecDepth 100000 in
theorem lifted (os : Os) (started : os.Started) (H : Type) (enc : TypeId × Value → H) :
    ReturnsInHanded {} Try.checked os 4 .any (Rows.requestSizesSpec.pre6 enc Try.prog Try.f4 Rows.requestSizesRow.domain false) (Rows.requestSizesSpec.post enc Try.prog Try.f4 false true false false) := by
  refine returnsInHanded_of_change (C := Try.checked) own started (by kernel_rfl) Try.func4
    (ChangeSpec.witness6 (enc := enc) (C := Try.checked) false ⟨#[], #[.int .i64 0, .slice none 0 0, .slice none 0 0], []⟩ 8 (by kernel_rfl) (by kernel_rfl) (by kernel_rfl) (by kernel_rfl)) ?_
  intro W base args ds gs before hval0 hW hcnd _
  have hval : ∀ (j : Nat) t v, Try.f4.params[j]? = some t → args[j]? = some v → Value.okWide Try.prog W .any base t v := hval0
  have hW' := hW
  obtain ⟨p, q, hA0, hV, rfl, hfz, hnd⟩ := hW
  have hA : DataW.TrodAll enc Try.prog W 0 (fun _ => true) true Try.f4.params.toList args.toList ds p := hA0
  rw [Try.params4] at hA hval
  obtain ⟨v0, vs0, d0, ds0, p0, q0, hargs, rfl, rfl, h0, r0⟩ := trodAll_cons hA
  obtain ⟨v1, vs1, d1, ds1, p1, q1, rfl, rfl, rfl, h1, r1⟩ := trodAll_cons r0
  obtain ⟨v2, vs2, d2, ds2, p2, q2, rfl, rfl, rfl, h2, r2⟩ := trodAll_cons r1
  obtain ⟨rfl, rfl, rfl⟩ := trodAll_nil r2
  obtain rfl : args = #[v0, v1, v2] := by cases args; simp_all
  obtain ⟨rfl, rfl⟩ := trodVars_none hV
  have lt0 : ∀ x ∈ p0, x.block < W.heap.size := by obtain ⟨m, hm⟩ := h0; exact DataW.trod_lt m _ _ _ hm
  have lt1 : ∀ x ∈ p1, x.block < W.heap.size := by obtain ⟨m, hm⟩ := h1; exact DataW.trod_lt m _ _ _ hm
  have lt2 : ∀ x ∈ p2, x.block < W.heap.size := by obtain ⟨m, hm⟩ := h2; exact DataW.trod_lt m _ _ _ hm
  clear hA0 hval0
  refine (law_calls (enc := enc) (base := base) W v0 d0 p0 v1 d1 p1 v2 d2 p2 (hval 0 3 v0 rfl rfl) h0 (hval 1 29 v1 rfl rfl) h1 (hval 2 23 v2 rfl rfl) h2).mono fun e W' ⟨he, bel⟩ => ?_
  subst he
  exact ⟨_, rfl, _, _, _, [], _, [], hW', trodAll_mk1 (shut_bool Try.underlying4 _), (trodAll_cons_mk (Below.trod laidOut (by kernel_rfl) (of_decide_eq_true (by kernel_rfl)) h0 bel lt0) (trodAll_cons_mk (Below.trod laidOut (by kernel_rfl) (of_decide_eq_true (by kernel_rfl)) h1 bel lt1) (trodAll_cons_mk (Below.trod laidOut (by kernel_rfl) (of_decide_eq_true (by kernel_rfl)) h2 bel lt2) trodAll_mk0))), rfl, bel.frame _, fun h => by cases h⟩

theorem over : Rows.requestSizesRow.holds Try.pinned (OpenSpec.ofChange Rows.requestSizesSpec) :=
  OpenClaim.holds_of_wide 4 Try.f4 rfl rfl rfl rfl rfl rfl rfl ⟨rfl, rfl, rfl, rfl, rfl⟩ rfl rfl rfl rfl rfl (by kernel_rfl) Try.func4 (by kernel_rfl)
    (of_decide_eq_true (by kernel_rfl)) (by unfold Func.isWrapper; first | (rw [if_pos (by decide +kernel)]; kernel_rfl) | (rw [if_neg (by decide +kernel)]; exact ⟨rfl, rfl⟩))
    (fun os started H enc _ => lifted os started H enc)

/-- The statement. -/
theorem proved : Rows.RequestSizesSaid := over

#print axioms proved

end Go.Proofs.Ytbkdccamimakoaa.requestSizes
