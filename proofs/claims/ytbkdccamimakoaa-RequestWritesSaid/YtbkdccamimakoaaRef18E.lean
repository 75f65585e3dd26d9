/-
  deponentref18.Encode.
-/
import Derived.Test.YtbkdccamimakoaaRef18B
namespace Go.Proofs.Ytbkdccamimakoaa
open Go.RowKit
set_option linter.unusedVariables false

set_option maxRecDepth 100000 in
set_option maxHeartbeats 1600000 in
theorem ref18_encode (R : Req) (Ac : Option Addr) (cc : Nat) (Al : Option Addr) (cl : Nat) (w : World) (hR : R.Fit) (hleaf : Reads w w.heap.size 1 Al R.leaf.length (byv R.leaf)) (hlc : R.leaf.length ≤ cl) (hc : cl ≤ maxLen)
    (hcav : Reads w w.heap.size 2 Ac R.cavs.length (cavv R.cavs)) (hcc : R.cavs.length ≤ cc) (hcm : cc ≤ maxLen) (hid : R.tid < 4294967296) (hln : ∀ x ∈ R.cavs, x.2 < 4294967296) :
    Calls Try.prog 13 #[.agg (reqv R (.slice Ac R.cavs.length cc) (.slice Al R.leaf.length cl)).toArray] w fun e w' => ∃ v, e = .returned (.tuple #[v, .int .i64 ((encRes R).1 : Int)]) ∧ OwnB w' w.heap.size v (encRes R).2 ∧ Below w.heap.size w w' := by
  have hbody := fun w' h => ref18_body R (.slice Ac R.cavs.length cc) Al cl w' hR h hlc hc
  have htok := fun w' h => ref12_encode R.tid R.cavs Ac cc R.tag w' h hcc hcm hid hln hR.tag
  have hrt := reqv_tok R (.slice Ac R.cavs.length cc) (.slice Al R.leaf.length cl)
  have hlen := reqv_len R (.slice Ac R.cavs.length cc) (.slice Al R.leaf.length cl) hR.tag
  have hlen2 := tokv_len R.tid (.slice Ac R.cavs.length cc) R.tag hR.tag
  obtain ⟨L, hL⟩ : ∃ L, reqv R (.slice Ac R.cavs.length cc) (.slice Al R.leaf.length cl) = L := ⟨_, rfl⟩
  obtain ⟨T, hT⟩ : ∃ T, tokv R.tid (.slice Ac R.cavs.length cc) R.tag = T := ⟨_, rfl⟩
  rw [hL] at hrt hlen ⊢
  rw [hT] at hrt hlen2
  simp only [hL] at hbody
  simp only [hT] at htok
  have hi1 : (Try.prog.info? 31).map (·.size) = some L.length := by rw [hlen]; exact Try.req_info
  have hi2 : (Try.prog.info? 27).map (·.size) = some T.length := by rw [hlen2]; exact Try.tok_info
  have HI1 := Lib.hid hi1
  have HI2 := Lib.hid hi2
  have HB := Lib.hid hbody
  have HT := Lib.hid htok
  have HRT := Lib.hid hrt
  clear hi1 hi2 hL hT hlen hlen2 hbody htok hrt
  have t0 : Blk (w.alloc (.cells L.toArray 31)) w.heap.size 31 L.toArray := Blk.new w _ _
  have hrg := rangeAt_blk t0 0 L (fun j u h => by simpa using h)
  have HRG := Lib.hid hrg
  clear hrg
  go_enter Try.func13, Try.ntmps13
  go_wp2_with (refine load_mid_want rfl 31 (.tmp 1) rfl w.heap.size 0 rfl L _ HRG.out Try.underlying31 rfl HI1.out ?_)
  refine (HB.out _ (hleaf.laid _)).mono ?_
  rintro e w1 ⟨v1, rfl, hown1, hb1⟩
  simp only [alloc_size] at hown1 hb1
  have B1 : Below w.heap.size w w1 := ((Below.refl _ _).alloc (Nat.le_refl _) _).trans (hb1.mono (by omega))
  have t1 := t0.below hb1 (by omega)
  have hcav1 := hcav.call B1
  clear hb1 HRG hcav hleaf t0
  obtain ⟨bw, hbw⟩ : ∃ bw, (bodyRes R).1 = bw := ⟨_, rfl⟩
  obtain ⟨bb, hbb⟩ : ∃ bb, (bodyRes R).2 = bb := ⟨_, rfl⟩
  rw [hbw]
  rw [hbb] at hown1
  have hbl := bodyRes_len R
  rw [hbb] at hbl
  have HBW := Lib.hid hbw
  have HBB := Lib.hid hbb
  clear hbw hbb
  by_cases h0 : bw = 0
  · subst h0
    have hrg := rangeAt_blk t1 1 T HRT.out
    have HRG := Lib.hid hrg
    clear hrg
    go_wp2_with (refine load_mid_want rfl 27 (.tmp 16) rfl w.heap.size 1 rfl T _ HRG.out Try.underlying27 rfl HI2.out ?_)
    refine (HT.out _ hcav1).mono ?_
    rintro e w2 ⟨v2, rfl, hown2, hb2⟩
    have B2 := B1.trans (hb2.mono B1.size)
    have hownb := hown1.kept hb2
    have htl := tokRes_len R.tid R.cavs R.tag hR.tag
    obtain ⟨tw, htw⟩ : ∃ tw, (tokRes R.tid R.cavs R.tag).1 = tw := ⟨_, rfl⟩
    obtain ⟨tb, htb⟩ : ∃ tb, (tokRes R.tid R.cavs R.tag).2 = tb := ⟨_, rfl⟩
    rw [htw]
    rw [htb] at hown2 htl
    have HTW := Lib.hid htw
    have HTB := Lib.hid htb
    clear htw htb HRG hown1 hcav1 hb2
    by_cases h1 : tw = 0
    · subst h1
      obtain ⟨At, nt, ct, rfl, ht1, ht2, hrt⟩ := hown2.sl
      obtain ⟨Ab, nb, cb, rfl, hb1, hb2, hrb⟩ := hownb.sl
      have H : Hid (encRes R = (0, txt tb ++ bb)) := by
        unfold Hid encRes
        rw [if_pos HBW.out, if_pos HTW.out, HTB.out, HBB.out]
      go_wp2_with fail
      refine (ref2_bytes none At 0 nt 0 ct [] tb _ Reads.none_ hrt (by simp) ht1 ht2).mono ?_
      rintro e w5 ⟨v5, rfl, hown5, hb5⟩
      rw [List.nil_append] at hown5
      have hrb5 := hrb.call hb5
      have B5 := B2.trans (hb5.mono B2.size)
      have htx := txt_len_le tb
      have hbl5 := reads_bytes_le hrb5
      clear hrb hrt hown2 hownb
      go_wp2_with (at_builtin; refine append_bytes rfl _ _ rfl w2.heap.size _ _ rfl hown5 Ab nb cb bb rfl hrb5 (by omega) hb5.size ?_)
      intro v6 w6 hown6 hb6 hg6
      have HO := Lib.hid (hown6.mono B2.size)
      have HB6 := Lib.hid (B5.trans (hb6.mono B2.size))
      clear hown6 hb6 hg6 hown5 hrb5 hb5
      go_wp2
      go_ret2
      exact ⟨_, by rw [H.out]; rfl, by rw [H.out]; exact HO.out, HB6.out⟩
    · have H : Hid (encRes R = (tw, [])) := by
        unfold Hid encRes
        rw [if_pos HBW.out, HTW.out, if_neg h1]
      have hn : ((tw : Int) == 0) = false := by simpa using h1
      have hn2 : ((tw : Int) != 0) = true := by simpa using h1
      go_wp2
      go_ret2
      exact ⟨_, by rw [H.out]; rfl, by rw [H.out]; exact OwnB.nil _ _, B2⟩
  · have H : Hid (encRes R = (bw, [])) := by
      unfold Hid encRes
      rw [HBW.out, if_neg h0]
    have hn : ((bw : Int) == 0) = false := by simpa using h0
    have hn2 : ((bw : Int) != 0) = true := by simpa using h0
    go_wp2
    go_ret2
    exact ⟨_, by rw [H.out]; rfl, by rw [H.out]; exact OwnB.nil _ _, B1⟩

end Go.Proofs.Ytbkdccamimakoaa
