/-
  request: a request as bytes.
-/
import Derived.Test.YtbkdccamimakoaaDoorBody
import Derived.Test.YtbkdccamimakoaaDoorOwn
import Derived.Test.YtbkdccamimakoaaDoorCav
namespace Go.Proofs.YtbkdccamimakoaaDoor
open Go.RowKit
set_option linter.unusedVariables false

/-- A request's bytes: why not, or they. -/
def encRes (R : Req) : Nat × List Nat :=
  if (bodyRes R).1 = 0 then (if (tokRes R.tid R.cavs R.tag).1 = 0 then (0, txt (tokRes R.tid R.cavs R.tag).2 ++ (bodyRes R).2) else ((tokRes R.tid R.cavs R.tag).1, []))
  else ((bodyRes R).1, [])

theorem Tryd.req_info : (Tryd.prog.info? 32).map (·.size) = some 48 := by kernel_rfl

theorem reqv_len (R : Req) (cav leafv : Value) (ht : R.tag.length = 32) : (reqv R cav leafv).length = 48 := by
  unfold reqv
  rw [List.length_append, List.length_cons, tokv_len _ _ _ ht]
  rfl

theorem reqv_tok (R : Req) (cav leafv : Value) : ∀ j u, (tokv R.tid cav R.tag)[j]? = some u → (reqv R cav leafv)[1 + j]? = some u := by
  intro j u h
  have hl : j < (tokv R.tid cav R.tag).length := by
    rcases Nat.lt_or_ge j (tokv R.tid cav R.tag).length with h1 | h1
    · exact h1
    · rw [List.getElem?_eq_none h1] at h; cases h
  unfold reqv
  rw [List.getElem?_append_left (by simp; omega), show 1 + j = j + 1 from by omega, List.getElem?_cons_succ]
  exact h

theorem bodyRes_len (R : Req) : (bodyRes R).2.length ≤ 4294967296 := by
  have hg : ∀ l acc, (bodyGo R l acc).2 = [] ∨ ((bodyGo R l acc).2 = acc ++ l.flatMap (fldB R) ∧ (bodyGo R l acc).1 = 0) := by
    intro l
    induction l with
    | nil => intro acc; right; simp [bodyGo]
    | cons f l ih =>
      intro acc
      rw [bodyGo]
      split
      · rcases ih (acc ++ fldB R f) with h | ⟨h, h0⟩
        · exact .inl h
        · exact .inr ⟨by rw [h]; simp, h0⟩
      · exact .inl rfl
  unfold bodyRes
  cases ho : fieldsOf R.op with
  | none => simp
  | some l =>
    simp only
    rcases hg l (be R.op.toNat 1) with h | ⟨h, -⟩
    · rw [h]; simp
    · have := body_len R R.op.toNat l (fun f hf => isFld R.op l ho f hf) (fields_len R.op l ho).2.2 l.length
      rw [List.take_length] at this
      rw [h]
      exact this

theorem txt_len_le (l : List Nat) : (txt l).length ≤ 2 + l.length := by
  unfold txt
  rw [List.length_append, be_length, List.length_take]
  omega

set_option maxRecDepth 100000 in
set_option maxHeartbeats 1600000 in
theorem request_encode (R : Req) (Ac : Option Addr) (cc : Nat) (Al : Option Addr) (cl : Nat) (w : World) (hR : R.Fit) (hleaf : Reads w w.heap.size 1 Al R.leaf.length (byv R.leaf)) (hlc : R.leaf.length ≤ cl) (hc : cl ≤ maxLen)
    (hcav : Reads w w.heap.size 2 Ac R.cavs.length (cavv R.cavs)) (hcc : R.cavs.length ≤ cc) (hcm : cc ≤ maxLen) (hid : R.tid < 4294967296) (hln : ∀ x ∈ R.cavs, x.2 < 4294967296) :
    Calls Tryd.prog 14 #[.agg (reqv R (.slice Ac R.cavs.length cc) (.slice Al R.leaf.length cl)).toArray] w fun e w' => ∃ v, e = .returned (.tuple #[v, .int .i64 ((encRes R).1 : Int)]) ∧ OwnB w' w.heap.size v (encRes R).2 ∧ Below w.heap.size w w' := by
  have hbody := fun w' h => request_body R (.slice Ac R.cavs.length cc) Al cl w' hR h hlc hc
  have htok := fun w' h => token_encode R.tid R.cavs Ac cc R.tag w' h hcc hcm hid hln hR.tag
  have hrt := reqv_tok R (.slice Ac R.cavs.length cc) (.slice Al R.leaf.length cl)
  have hlen := reqv_len R (.slice Ac R.cavs.length cc) (.slice Al R.leaf.length cl) hR.tag
  have hlen2 := tokv_len R.tid (.slice Ac R.cavs.length cc) R.tag hR.tag
  obtain ⟨L, hL⟩ : ∃ L, reqv R (.slice Ac R.cavs.length cc) (.slice Al R.leaf.length cl) = L := ⟨_, rfl⟩
  obtain ⟨T, hT⟩ : ∃ T, tokv R.tid (.slice Ac R.cavs.length cc) R.tag = T := ⟨_, rfl⟩
  rw [hL] at hrt hlen ⊢
  rw [hT] at hrt hlen2
  simp only [hL] at hbody
  simp only [hT] at htok
  have hi1 : (Tryd.prog.info? 32).map (·.size) = some L.length := by rw [hlen]; exact Tryd.req_info
  have hi2 : (Tryd.prog.info? 29).map (·.size) = some T.length := by rw [hlen2]; exact Tryd.tok_info
  have HI1 := Lib.hid hi1
  have HI2 := Lib.hid hi2
  have HB := Lib.hid hbody
  have HT := Lib.hid htok
  have HRT := Lib.hid hrt
  clear hi1 hi2 hL hT hlen hlen2 hbody htok hrt
  have t0 : Blk (w.alloc (.cells L.toArray 32)) w.heap.size 32 L.toArray := Blk.new w _ _
  have hrg := rangeAt_blk t0 0 L (fun j u h => by simpa using h)
  have HRG := Lib.hid hrg
  clear hrg
  go_enter Tryd.func14, Tryd.ntmps14
  go_wp2_with (refine wpList_load_mid rfl 32 (.tmp 1) rfl w.heap.size 0 rfl L _ HRG.out Tryd.underlying32 rfl HI1.out ?_)
  refine (HB.out _ (hleaf.laid _)).mono ?_
  rintro e w1 ⟨v1, rfl, hown1, hb1⟩
  simp only [alloc_size] at hown1 hb1
  have hown1 : OwnB w1 (w.heap.size + 1) v1 (bodyRes R).2 := hown1
  have B1 : Below w.heap.size w w1 := ((Below.refl _ _).alloc (Nat.le_refl _) _).trans (hb1.mono (by omega))
  have t1 := t0.below hb1 (by omega)
  have hcav1 := hcav.call B1
  clear hb1 HRG hcav hleaf t0
  obtain ⟨bw, hbw⟩ : ∃ bw, (bodyRes R).1 = bw := ⟨_, rfl⟩
  obtain ⟨bb, hbb⟩ : ∃ bb, (bodyRes R).2 = bb := ⟨_, rfl⟩
  rw [hbw]
  rw [hbb] at hown1
  have hbl := bodyRes_len R
  rw [hbb] at hbl
  have HBW := Lib.hid hbw
  have HBB := Lib.hid hbb
  clear hbw hbb
  by_cases h0 : bw = 0
  · subst h0
    have hrg := rangeAt_blk t1 1 T HRT.out
    have HRG := Lib.hid hrg
    clear hrg
    go_wp2_with (refine wpList_load_mid rfl 29 (.tmp 17) rfl w.heap.size 1 rfl T _ HRG.out Tryd.underlying29 rfl HI2.out ?_)
    refine (HT.out _ hcav1).mono ?_
    rintro e w2 ⟨v2, rfl, hown2, hb2⟩
    have hown2 : OwnB w2 w1.heap.size v2 (tokRes R.tid R.cavs R.tag).2 := hown2
    have B2 := B1.trans (hb2.mono B1.size)
    have hownb := hown1.kept hb2
    have htl := tokRes_len R.tid R.cavs R.tag hR.tag
    obtain ⟨tw, htw⟩ : ∃ tw, (tokRes R.tid R.cavs R.tag).1 = tw := ⟨_, rfl⟩
    obtain ⟨tb, htb⟩ : ∃ tb, (tokRes R.tid R.cavs R.tag).2 = tb := ⟨_, rfl⟩
    rw [htw]
    rw [htb] at hown2 htl
    have HTW := Lib.hid htw
    have HTB := Lib.hid htb
    clear htw htb HRG hown1 hcav1 hb2
    by_cases h1 : tw = 0
    · subst h1
      obtain ⟨At, nt, ct, rfl, ht1, ht2, hrt⟩ := hown2.sl
      obtain ⟨Ab, nb, cb, rfl, hb1, hb2, hrb⟩ := hownb.sl
      have H : Hid (encRes R = (0, txt tb ++ bb)) := by
        unfold Hid encRes
        rw [if_pos HBW.out, if_pos HTW.out, HTB.out, HBB.out]
      go_wp2_with fail
      refine (new_writer _).mono ?_
      rintro e w3 ⟨rfl, hw3, hb3⟩
      have B3 := B2.trans (hb3.mono B2.size)
      have hrt3 := hrt.call hb3
      have hrb3 := hrb.call hb3
      go_wp2_with fail
      refine (writer_bytes _ _ [] tb At nt ct _ hw3 (by simp) (hrt.below hb3) ht1 ht2).mono ?_
      rintro e w4 ⟨rfl, hw4, hb4, -⟩
      have hrb4 := (hrb.below (hb3.trans hb4))
      have B4 := B3.trans (hb4.mono B2.size)
      rw [List.nil_append] at hw4
      go_wp2_with fail
      have htx := txt_len_le tb
      refine (writer_done _ _ _ _ hw4 (by omega)).mono ?_
      rintro e w5 ⟨v5, rfl, hown5, hb5⟩
      have hown5 : OwnB w5 w4.heap.size v5 (txt tb) := hown5
      have hrb5 := (hrb4.more (show w2.heap.size ≤ w4.heap.size from by have := hb4.size; have := hb3.size; omega)).call hb5
      have B5 := B4.trans (hb5.mono B4.size)
      have hbl5 := reads_bytes_le hrb5
      clear hw4 hw3 hrb4 hrb3 hrt3 hrb hrt hown2 hownb
      go_wp2_with (at_builtin; refine append_bytes rfl (.tmp 30) (.tmp 31) rfl w4.heap.size _ _ rfl hown5 Ab nb cb bb rfl hrb5 (by omega) hb5.size ?_)
      intro v6 w6 hown6 hb6 hg6
      have HO := Lib.hid (hown6.mono B4.size)
      have HB6 := Lib.hid (B5.trans (hb6.mono B4.size))
      clear hown6 hb6 hg6 hown5 hrb5 hb5 hb4 hb3
      go_wp2
      go_ret2
      exact ⟨_, by rw [H.out]; rfl, by rw [H.out]; exact HO.out, HB6.out⟩
    · have H : Hid (encRes R = (tw, [])) := by
        unfold Hid encRes
        rw [if_pos HBW.out, HTW.out, if_neg h1]
      have hn : ((tw : Int) == 0) = false := by simpa using h1
      have hn2 : ((tw : Int) != 0) = true := by simpa using h1
      go_wp2
      go_ret2
      exact ⟨_, by rw [H.out]; rfl, by rw [H.out]; exact OwnB.nil _ _, B2⟩
  · have H : Hid (encRes R = (bw, [])) := by
      unfold Hid encRes
      rw [HBW.out, if_neg h0]
    have hn : ((bw : Int) == 0) = false := by simpa using h0
    have hn2 : ((bw : Int) != 0) = true := by simpa using h0
    go_wp2
    go_ret2
    exact ⟨_, by rw [H.out]; rfl, by rw [H.out]; exact OwnB.nil _ _, B1⟩

end Go.Proofs.YtbkdccamimakoaaDoor
