/-
  deponentlaw18.RequestBack: true.
-/
import Derived.Test.YtbkdccamimakoaaDoorReads
import Derived.Test.YtbkdccamimakoaaDoorBackR
import Derived.Test.YtbkdccamimakoaaDoorWithin
import Derived.Test.YtbkdccamimakoaaDoorOpenR
namespace Go.Proofs.YtbkdccamimakoaaDoor
open Go.RowKit
set_option linter.unusedVariables false
set_option maxRecDepth 100000

theorem Fit_of {R : Req} (h : R.Good) : R.Fit := by
  have e : ∀ {x : Int}, (Lit.int .i64 x).wf = true → x ≤ 18446744073709551615 := fun h => by have := i64_bd h; omega
  refine ⟨h.tag, fun o => Int.lt_of_le_of_lt (num_le R 18446744073709551615 (by decide) (e h.tree) (e h.tenant) (e h.role) (e h.state) (e h.weight) ?_ ?_ ?_ ?_ ?_ ?_ ?_ o) (by decide)⟩
  · have := h.id; omega
  · have := h.lo; omega
  · have := h.hi; omega
  · have := h.rate; omega
  · have := h.burst; omega
  · have := h.store; omega
  · have := h.expires; omega

theorem txt_lt (l : List Nat) (h : ∀ x ∈ l, x < 256) : ∀ x ∈ txt l, x < 256 := by
  intro x hx
  unfold txt at hx
  rcases List.mem_append.1 hx with hx | hx
  · exact be_lt _ _ x hx
  · exact h x (List.mem_of_mem_take hx)

theorem tokRes_lt (id : Nat) (l : List (Int × Nat)) (tag : List Nat) (h : ∀ x ∈ tag, x < 256) : ∀ x ∈ (tokRes id l tag).2, x < 256 := by
  unfold tokRes
  split
  · intro x hx; cases hx
  · split
    · intro x hx
      simp only [List.mem_append] at hx
      rcases hx with ((hx | hx) | hx) | hx
      · exact be_lt _ _ x hx
      · exact be_lt _ _ x hx
      · unfold cavb at hx
        obtain ⟨c, -, hx⟩ := List.mem_flatMap.1 hx
        rcases List.mem_append.1 hx with hx | hx
        · exact be_lt _ _ x hx
        · exact be_lt _ _ x hx
      · exact h x hx
    · intro x hx; cases hx

theorem bodyGo_lt (R : Req) (h : ∀ x ∈ R.leaf, x < 256) : ∀ (l : List Fld) (acc : List Nat), (∀ x ∈ acc, x < 256) → ∀ x ∈ (bodyGo R l acc).2, x < 256
  | [], acc, ha => ha
  | f :: l, acc, ha => by
    unfold bodyGo
    split
    · refine bodyGo_lt R h l _ fun x hx => ?_
      rcases List.mem_append.1 hx with hx | hx
      · exact ha x hx
      · unfold fldB at hx
        split at hx
        · exact be_lt _ _ x hx
        · exact txt_lt _ h x hx
    · intro x hx; cases hx

theorem encRes_lt (R : Req) (h1 : ∀ x ∈ R.leaf, x < 256) (h2 : ∀ x ∈ R.tag, x < 256) : ∀ x ∈ (encRes R).2, x < 256 := by
  unfold encRes
  split
  · split
    · intro x hx
      rcases List.mem_append.1 hx with hx | hx
      · exact txt_lt _ (tokRes_lt _ _ _ h2) x hx
      · unfold bodyRes at hx
        split at hx
        · cases hx
        · exact bodyGo_lt R h1 _ _ (be_lt _ _) x hx
    · intro x hx; cases hx
  · intro x hx; cases hx

theorem encRes_ne (R : Req) (h : (encRes R).1 = 0) : 1 ≤ (encRes R).2.length := by
  unfold encRes at h ⊢
  split at h
  · rename_i hb
    rw [if_pos hb]
    split at h
    · rename_i ht
      rw [if_pos ht]
      simp only [List.length_append]
      unfold txt
      rw [List.length_append, be_length]
      omega
    · rename_i ht
      exact absurd h ht
  · rename_i hb
    exact absurd h hb

theorem encRes_len (R : Req) (ht : R.tag.length = 32) : (encRes R).2.length ≤ 4294967400 := by
  unfold encRes
  split
  · split
    · have h1 := bodyRes_len R
      have h2 := txt_len_le (tokRes R.tid R.cavs R.tag).2
      have h3 := tokRes_len R.tid R.cavs R.tag ht
      simp only [List.length_append]
      omega
    · simp
  · simp

theorem bodyGo_small (R : Req) (h : R.leaf.length ≤ 256) : ∀ (l : List Fld) (acc : List Nat), (∀ f ∈ l, IsFld f) → (bodyGo R l acc).2.length ≤ acc.length + 258 * l.length
  | [], acc, _ => by simp [bodyGo]
  | f :: l, acc, hl => by
    unfold bodyGo
    split
    · have ih := bodyGo_small R h l (acc ++ fldB R f) (fun g hg => hl g (List.mem_cons_of_mem _ hg))
      have hf : (fldB R f).length ≤ 258 := by
        unfold fldB
        split
        · rw [be_length]
          rcases isFld_kinds (hl f (by simp)) with h | h | h | h
          · omega
          · omega
          · omega
          · rw [h]; decide
        · have := txt_len_le R.leaf
          omega
      simp only [List.length_append, List.length_cons] at ih ⊢
      omega
    · simp

theorem encRes_small (R : Req) (h : R.leaf.length ≤ 256) (ht : R.tag.length = 32) : (encRes R).2.length ≤ 2000 := by
  unfold encRes
  split
  · split
    · have h2 := txt_len_le (tokRes R.tid R.cavs R.tag).2
      have h3 := tokRes_len R.tid R.cavs R.tag ht
      have h1 : (bodyRes R).2.length ≤ 1 + 258 * 4 := by
        unfold bodyRes
        split
        · simp
        · rename_i l hl
          have := bodyGo_small R h l (be R.op.toNat 1) (fun f hf => isFld R.op l hl f hf)
          have h4 := (fields_len R.op l hl).2.2
          rw [be_length] at this
          omega
      simp only [List.length_append]
      omega
    · simp
  · simp

theorem reqDec_some {bs : List Nat} {y : Nat × Nat} {S : Req} (h : reqDec bs = (some y, S)) : S = zeroReq := by
  unfold reqDec at h
  split at h
  · cases h
  · injection h with _ h2
    exact h2.symm

theorem Req.Good.cut {R0 : Req} (h : R0.Good) (n : Nat) : ({ R0 with leaf := R0.leaf.take n } : Req).Good :=
  ⟨h.tag, h.tagb, h.tid, h.cavn, h.cavk, h.op, h.tree, h.tenant, h.role, h.state, h.weight, h.id, h.lo, h.hi, h.rate, h.burst, h.store, h.expires, fun b hb => h.leafb b (List.mem_of_mem_take hb)⟩

/-- The numbers of what is read fit. -/
structure Req.FitsN (R : Req) : Prop where
  num : ∀ o, 0 ≤ R.num o ∧ R.num o < 18446744073709551616

theorem put_fitsN {R : Req} (h : R.FitsN) (o n : Nat) (hn : n < 18446744073709551616) : (R.put o n).FitsN := by
  refine ⟨fun o' => ?_⟩
  have := h.num o'
  unfold Req.put
  split <;> (unfold Req.num at this ⊢; split <;> simp_all <;> omega)

theorem reqGo_fitsN (bs : List Nat) (hb : ∀ x ∈ bs, x < 256) : ∀ (l : List Fld) (s : RSt) (R : Req), (∀ f ∈ l, IsFld f) → R.FitsN → (reqGo bs l s R).2.FitsN
  | [], s, R, _, h => h
  | f :: l, s, R, hl, h => by
    unfold reqGo
    split
    · exact reqGo_fitsN bs hb l _ _ (fun g hg => hl g (List.mem_cons_of_mem _ hg)) ⟨h.num⟩
    · refine reqGo_fitsN bs hb l _ _ (fun g hg => hl g (List.mem_cons_of_mem _ hg)) (put_fitsN h _ _ ?_)
      have h1 := rNum_lt bs s f.1 hb
      have h2 : f.1 ≤ 8 := by
        rcases isFld_kinds (hl f (by simp)) with h | h | h | h
        · omega
        · omega
        · omega
        · rw [h]; decide
      exact Nat.lt_of_lt_of_le h1 (Nat.le_trans (Nat.pow_le_pow_right (by decide) h2) (by decide))

theorem reqDec_fit (bs : List Nat) (hb : ∀ x ∈ bs, x < 256) : (reqDec bs).2.Fit := by
  have hf := reqDec_fine bs hb
  have h0 : ∀ (T : Tok) (k : Nat), (req0 T (k : Int)).FitsN := fun T k => ⟨fun o => by unfold req0 Req.num; split <;> simp⟩
  have hz : zeroReq.FitsN := h0 _ 0
  have h : (reqDec bs).2.FitsN := by
    unfold reqDec
    split
    · unfold reqDecS
      split
      · exact h0 _ _
      · rename_i l hl
        exact reqGo_fitsN bs hb l _ _ (fun f hm => isFld _ l hl f hm) (h0 _ _)
    · exact hz
  exact ⟨hf.tag, fun o => (h.num o).2⟩

-- END BY HAND


set_option maxHeartbeats 8000000 in
theorem back_walk (R0 : Req) (Ac : Option Addr) (cc : Nat) (Al : Option Addr) (cl : Nat) (B : Option Addr) (kb d : Nat) (bs0 : List Nat) (cut : Int) (W : World)
    (hE : W.cell? ⟨0, 0, none⟩ = some (.iface 148 (.agg #[.pointer (some ⟨1, 34, none⟩)])))
    (hg : R0.Good) (hcc : R0.cavs.length ≤ cc) (hcm : cc ≤ maxLen) (hlc0 : R0.leaf.length ≤ cl) (hcl : cl ≤ maxLen)
    (hca : Reads W W.heap.size 2 Ac R0.cavs.length (cavv R0.cavs)) (hla0 : Reads W W.heap.size 1 Al R0.leaf.length (byv R0.leaf))
    (hrb : Reads W W.heap.size 1 B kb (byv bs0)) (hkd : kb ≤ d) (hd : d ≤ maxLen) (hb0 : ∀ x ∈ bs0, x < 256) (c1 : -9223372036854775808 ≤ cut) (c2 : cut ≤ 9223372036854775807) :
    Calls Tryd.prog 4 #[.agg (reqv R0 (.slice Ac R0.cavs.length cc) (.slice Al R0.leaf.length cl)).toArray, .slice B kb d, .int .i64 cut] W fun e w' => e = .returned (.bool true) ∧ Below W.heap.size W w' := by
  unfold maxLen at hcm hcl hd
  -- the leaf
  obtain ⟨R, hR⟩ : ∃ R : Req, R = { R0 with leaf := R0.leaf.take 256 } := ⟨_, rfl⟩
  have hG : R.Good := by rw [hR]; exact hg.cut 256
  obtain ⟨n1, hn1⟩ : ∃ n, R.leaf.length = n := ⟨_, rfl⟩
  have hn1' : n1 = min 256 R0.leaf.length := by rw [← hn1, hR]; simp
  obtain ⟨K, hK⟩ : ∃ K, R0.leaf.length = K := ⟨_, rfl⟩
  obtain ⟨nc, hnc⟩ : ∃ n, R0.cavs.length = n := ⟨_, rfl⟩
  have hcv : R0.cavs = R.cavs := by rw [hR]
  rw [hK] at hla0 hlc0 hn1' ⊢
  rw [hnc] at hca hcc ⊢
  have hla1 : Reads W W.heap.size 1 Al n1 (byv R.leaf) := by
    have := hla0.pre (k := n1) (by omega)
    rw [show byv R.leaf = (byv R0.leaf).take n1 by
      rw [hR]
      show byv (R0.leaf.take 256) = _
      rw [hn1']
      simp only [byv, List.map_take]
      rcases Nat.le_total 256 K with h | h
      · rw [Nat.min_eq_left h]
      · rw [Nat.min_eq_right h, List.take_of_length_le (by rw [List.length_map, hK]; exact h), List.take_of_length_le (by rw [List.length_map, hK]; exact Nat.le_refl _)]]
    exact this
  rw [hcv] at hca hnc
  have hL47 := (reqv_rest R0 (.slice Ac nc cc) (.slice Al K cl) hg.tag 12).trans (show _ = some (.slice Al K cl) from rfl)
  have hM0 : ∀ cav v, reqv R0 cav v = reqv R cav v := fun cav v => by rw [hR]; rfl
  have hset := reqv_set R (.slice Ac nc cc) (.slice Al K cl) (.slice Al n1 cl) hG.tag
  rw [hM0] at hL47 ⊢
  have hlenM := reqv_len R (.slice Ac nc cc) (.slice Al n1 cl) hG.tag
  have hF := Fit_of hG
  have kenc := fun w' h1 h2 => request_encode R Ac cc Al cl w' hF h1 (by rw [hn1]; omega) (by unfold maxLen; omega) h2 (by rw [hnc]; exact hcc) (by unfold maxLen; omega) hG.tid hG.cavn
  have M0 : (reqv R (.slice Ac nc cc) (.slice Al n1 cl))[0]? = some (.int .i64 R.op) := rfl
  have Mtok := reqv_tok R (.slice Ac nc cc) (.slice Al n1 cl)
  have Mtree := (reqv_rest R (.slice Ac nc cc) (.slice Al n1 cl) hG.tag 0).trans (show _ = some (.int .i64 R.tree) from rfl)
  have Mleaf := (reqv_rest R (.slice Ac nc cc) (.slice Al n1 cl) hG.tag 12).trans (show _ = some (.slice Al n1 cl) from rfl)
  rw [hn1, hnc] at kenc
  have KL : (K = n1 ∧ K ≤ 256) ∨ (256 < K ∧ n1 = 256) := by omega
  obtain ⟨L, hL⟩ : ∃ L, reqv R (.slice Ac nc cc) (.slice Al K cl) = L := ⟨_, rfl⟩
  obtain ⟨M, hM⟩ : ∃ M, reqv R (.slice Ac nc cc) (.slice Al n1 cl) = M := ⟨_, rfl⟩
  have hLM : K = n1 → L = M := fun e => by rw [← hL, ← hM, e]
  rw [hL] at hL47 hset ⊢
  rw [hM] at hset hlenM M0 Mtok Mtree Mleaf
  simp only [hM] at kenc
  have KENC := Lib.hid kenc
  have M0 := Lib.hid M0
  have MTOK := Lib.hid Mtok
  have MTREE := Lib.hid Mtree
  have MLEAF := Lib.hid Mleaf
  have HI := Lib.hid (show (Tryd.prog.info? 32).map (·.size) = some M.length by rw [hlenM]; exact Tryd.req_info)
  have HSET := Lib.hid hset
  have HLM := Lib.hid hLM
  have H47 := Lib.hid hL47
  have HG := Lib.hid hG
  have HCA := Lib.hid hca
  have HLA := Lib.hid hla1
  have HN1 := Lib.hid hn1
  have HNC := Lib.hid hnc
  -- the bytes
  obtain ⟨n, hn⟩ : ∃ n, min kb 600 = n := ⟨_, rfl⟩
  obtain ⟨bs, hbs⟩ : ∃ bs, bs0.take n = bs := ⟨_, rfl⟩
  have hrn := hrb.pre (k := n) (by omega)
  rw [show (byv bs0).take n = byv bs by rw [← hbs]; simp [byv]] at hrn
  have hbn : ∀ x ∈ bs, x < 256 := fun x hx => hb0 x (by rw [← hbs] at hx; exact List.mem_of_mem_take hx)
  have hnd : n ≤ d := by omega
  have hn6 : n ≤ 600 := by omega
  have HRB := Lib.hid hrn
  have HBS := Lib.hid hbn
  have HE := Lib.hid hE
  have HNK := Lib.hid hn
  clear kenc hset hLM hL47 hG hca hla1 hn1 hnc hrn hbn hE hn hbs hM hL hlenM hM0 hF hla0 hn1' hK hcv hR hg hb0 hrb Mtok Mtree Mleaf
  have t0 : Blk (W.alloc (.cells L.toArray 32)) W.heap.size 32 L.toArray := Blk.new _ _ _
  have c47 := (t0.cell 47).trans (show L.toArray[47]? = some (.slice Al K cl) by simpa using H47.out)
  have f47 := t0.frozen 47
  have B0 : Below W.heap.size W (W.alloc (.cells L.toArray 32)) := (Below.refl _ _).alloc (Nat.le_refl _) _
  have T0 := Lib.hid t0
  have B0 := Lib.hid B0
  clear t0
  go_enter Tryd.func4, Tryd.ntmps4
  go_upto_if 22 with (fail)
  go_cut [] (fun wx => Hid (Blk wx W.heap.size 32 M.toArray) ∧ Hid (Below W.heap.size W wx))
  case first =>
    rcases KL with ⟨rfl, hk2⟩ | ⟨hk2, hk3⟩
    · have q : ¬ (256 : Int) < K := by omega
      have t1 := Lib.hid (show Blk (W.alloc (.cells L.toArray 32)) W.heap.size 32 M.toArray by rw [← HLM.out rfl]; exact T0.out)
      go_wp2
      go_meet
      case rel => exact ⟨t1.out, B0.out⟩
    · have q : (256 : Int) < K := by omega
      have hk1 : (256 : Int) ≤ cl := by omega
      subst hk3
      have t1 := Lib.hid (Blk.new W 32 M.toArray)
      have b1 := Lib.hid (show Below W.heap.size W (W.alloc (.cells M.toArray 32)) from (Below.refl _ _).alloc (Nat.le_refl _) _)
      go_upto_region 3 with (fail)
      rw [HSET.out]
      go_meet
      case rel => exact ⟨t1.out, b1.out⟩
  case rest =>
    obtain ⟨T1, B1⟩ := hcut
    clear c47 f47 T0 B0
    go_upto_if 29 with (fail)
    go_cut [1] (fun s1 wx => s1 = .slice B n d ∧ wx = wc)
    case first =>
      have hn := HNK.out
      by_cases hk : 600 < kb
      · have q : (600 : Int) < kb := by omega
        obtain rfl : n = 600 := by omega
        clear hn
        go_wp2
        go_meet
        case rel => exact ⟨rfl, rfl⟩
      · have q : ¬ (600 : Int) < kb := by omega
        obtain rfl : kb = n := by omega
        clear hn
        go_wp2
        go_meet
        case rel => exact ⟨rfl, rfl⟩
    case rest =>
      obtain ⟨rfl, rfl⟩ := hcut
      obtain ⟨w1, rfl⟩ : ∃ x, x = wc := ⟨_, rfl⟩
      have RG1 := Lib.hid (rangeAt_blk T1.out 0 M (fun j u h => by simpa using h))
      have hk := KENC.out w1 (HLA.out.call B1.out) (HCA.out.call B1.out)
      have hxl := encRes_lt R HG.out.leafb HG.out.tagb
      have hxn := encRes_ne R
      have hxs := encRes_small R (by rw [HN1.out]; omega) HG.out.tag
      obtain ⟨⟨e1, x⟩, hx⟩ : ∃ y, encRes R = y := ⟨_, rfl⟩
      rw [hx] at hk hxl hxn hxs
      dsimp only at hk hxl hxn hxs
      have HK := Lib.hid hk
      have HXL := Lib.hid hxl
      have HXN := Lib.hid hxn
      have HXS := Lib.hid hxs
      have HX := Lib.hid hx
      clear hk hxl hxn hxs hx
      go_wp2_with (refine load_mid_want rfl 32 (.tmp 3) rfl W.heap.size 0 rfl M _ RG1.out Tryd.underlying32 rfl HI.out ?_)
      refine HK.out.mono ?_
      rintro e w2 ⟨v2, rfl, own2, b2⟩
      obtain ⟨A2, n2, cx2, rfl, hnx2, hcx2, rd2⟩ := OwnB.sl own2
      have ex2 : x.length = n2 := reads_bytes_le rd2
      have hn2 : n2 ≤ 2000 := by have := HXS.out; omega
      have T2 := Lib.hid (T1.out.below b2 T1.out.lt)
      have B2 := Lib.hid (B1.out.trans (b2.mono B1.out.size))
      have RD2 := Lib.hid rd2
      have EX2 := Lib.hid ex2
      clear own2 b2 rd2 ex2 RG1 HK T1 B1 hcx2
      go_upto_region 6 with (fail)
      go_cut [43] (fun s43 wx => s43 = .bool false ∧ wx = w2)
      case first =>
        by_cases h0 : e1 = 0
        · subst h0
          have hne := HXN.out rfl
          have q : ¬ ((n2 : Int) = 0) := by have := EX2.out; omega
          go_wp2
          go_meet
          case rel => exact ⟨congrArg Value.bool (by simpa using q), rfl⟩
        · have q : ¬ ((e1 : Int) = 0) := by omega
          go_wp2
          go_meet
          case rel => exact ⟨rfl, rfl⟩
      case rest =>
        obtain ⟨rfl, rfl⟩ := hcut
        obtain ⟨w2, rfl⟩ : ∃ x, x = wc := ⟨_, rfl⟩
        go_upto_if 45 with (fail)
        go_cut [] (fun wx => Hid (Below W.heap.size W wx))
        case first =>
          by_cases h0 : e1 = 0
          · subst h0
            have hxe := HX.out
            obtain ⟨S, hS1, hS2, hS3, hS4, hS5, hS6, hS7, hS8⟩ := back_there R x HG.out hxe
            have hSb := back_again x S HXL.out hS1
            have hSF := reqDec_fit x HXL.out
            have hSf := reqDec_fine x HXL.out
            rw [hS1] at hSF hSf
            dsimp only at hSF hSf
            have hEw := (B2.out.cell (p := ⟨0, 0, none⟩) (World.block_lt_of_cell? _ _ HE.out)).trans HE.out
            have hDX := request_decode x A2 n2 cx2 w2 RD2.out (by omega) HXL.out hEw
            rw [hS1] at hDX
            dsimp only at hDX
            have HDX := Lib.hid hDX
            have q1 : 1 ≤ n2 := by have := HXN.out rfl; have := EX2.out; omega
            have hlen := EX2.out
            have FS := Lib.hid hSF
            have FF := Lib.hid hSf
            have SB := Lib.hid hSb
            have SO := Lib.hid hS2
            have ST := Lib.hid (show S.tid = R.tid ∧ S.cavs = R.cavs ∧ S.tag = R.tag from ⟨hS3, hS4, hS5⟩)
            have STR := Lib.hid hS6
            have SLE := Lib.hid hS7
            have SC4 := Lib.hid hS8
            have HXE := Lib.hid hxe
            have S1 := Lib.hid hS1
            clear hDX hEw hSF hSf hSb hS2 hS3 hS4 hS5 hS6 hS7 hS8 hxe hS1 hlen
            go_wp2_with fail
            refine HDX.out.mono ?_
            rintro e w3 ⟨cav3, lv3, r3, rfl, oc3, ol3, er3, b3⟩
            have er3 : r3 = .nilIface := er3
            subst er3
            obtain ⟨A3, n3, cc3, rfl, en3, nc3, mc3, rdc3⟩ := OwnC.sl oc3
            obtain ⟨Al3, m3, cl3, rfl, ml3, mcl3, rdl3⟩ := OwnB.sl ol3
            have em3 : S.leaf.length = m3 := reads_bytes_le rdl3
            have en3c : n3 = nc := by rw [en3, ST.out.2.1]; exact HNC.out
            subst en3c
            have lP := req_size S (.slice A3 n3 cc3) (.slice Al3 m3 cl3) FF.out.tag
            have oP := reqv_one S (.slice A3 n3 cc3) (.slice Al3 m3 cl3) rfl rfl
            have P0 : (reqv S (.slice A3 n3 cc3) (.slice Al3 m3 cl3))[0]? = some (.int .i64 S.op) := rfl
            have Ptok := reqv_tok S (.slice A3 n3 cc3) (.slice Al3 m3 cl3)
            have Ptree := (reqv_rest S (.slice A3 n3 cc3) (.slice Al3 m3 cl3) FF.out.tag 0).trans (show _ = some (.int .i64 S.tree) from rfl)
            have Pleaf := (reqv_rest S (.slice A3 n3 cc3) (.slice Al3 m3 cl3) FF.out.tag 12).trans (show _ = some (.slice Al3 m3 cl3) from rfl)
            have kencS := fun w' h1 h2 => request_encode S A3 cc3 Al3 cl3 w' FS.out h1 (by rw [em3]; exact ml3) mcl3 h2 (by rw [← en3]; exact nc3) mc3 FF.out.tid FF.out.cavn
            rw [em3, ← en3, SB.out] at kencS
            dsimp only at kencS
            obtain ⟨P, hP⟩ : ∃ P, reqv S (.slice A3 n3 cc3) (.slice Al3 m3 cl3) = P := ⟨_, rfl⟩
            rw [hP] at lP oP P0 Ptok Ptree Pleaf ⊢
            simp only [hP] at kencS
            have KS := Lib.hid kencS
            have IP := Lib.hid (show (Tryd.prog.info? 32).map (·.size) = some P.toArray.size by rw [List.size_toArray, lP]; exact Tryd.req_info)
            have IP' := Lib.hid (show (Tryd.prog.info? 32).map (·.size) = some P.length by rw [lP]; exact Tryd.req_info)
            have LP := Lib.hid lP
            have OP := Lib.hid oP
            have P0 := Lib.hid P0
            have PTOK := Lib.hid Ptok
            have PTREE := Lib.hid Ptree
            have PLEAF := Lib.hid Pleaf
            have B3 := Lib.hid (B2.out.trans (b3.mono B2.out.size))
            have T3 := Lib.hid (T2.out.below b3 T2.out.lt)
            have RC3 := Lib.hid rdc3
            have RL3 := Lib.hid rdl3
            have RX3 := Lib.hid (RD2.out.call b3)
            have Z3 := Lib.hid (Blk.new w3 32 #[.int .i64 0, .int .u32 0, .slice none 0 0, .int .u8 0, .int .u8 0, .int .u8 0, .int .u8 0, .int .u8 0, .int .u8 0, .int .u8 0, .int .u8 0, .int .u8 0, .int .u8 0, .int .u8 0, .int .u8 0, .int .u8 0, .int .u8 0, .int .u8 0, .int .u8 0, .int .u8 0, .int .u8 0, .int .u8 0, .int .u8 0, .int .u8 0, .int .u8 0, .int .u8 0, .int .u8 0, .int .u8 0, .int .u8 0, .int .u8 0, .int .u8 0, .int .u8 0, .int .u8 0, .int .u8 0, .int .u8 0, .int .i64 0, .int .i64 0, .int .i64 0, .int .i64 0, .int .i64 0, .int .u32 0, .int .u64 0, .int .u64 0, .int .u32 0, .int .u32 0, .int .u32 0, .int .u64 0, .slice none 0 0])
            clear kencS lP oP hP b3 rdc3 rdl3 oc3 ol3 en3 nc3 mc3 ml3 mcl3 Ptok Ptree Pleaf em3 HDX RD2 T2
            go_upto_region 10 with (refine wpList_store_row rfl 32 (.tmp 9) (.tmp 49) rfl w3.heap.size P.toArray rfl rfl 32 _ Z3.out IP.out (by simp [LP.out]) (by simpa using OP.out) ?_)
            obtain ⟨w4, h4⟩ : ∃ x, x = (w3.alloc (.cells #[.int .i64 0, .int .u32 0, .slice none 0 0, .int .u8 0, .int .u8 0, .int .u8 0, .int .u8 0, .int .u8 0, .int .u8 0, .int .u8 0, .int .u8 0, .int .u8 0, .int .u8 0, .int .u8 0, .int .u8 0, .int .u8 0, .int .u8 0, .int .u8 0, .int .u8 0, .int .u8 0, .int .u8 0, .int .u8 0, .int .u8 0, .int .u8 0, .int .u8 0, .int .u8 0, .int .u8 0, .int .u8 0, .int .u8 0, .int .u8 0, .int .u8 0, .int .u8 0, .int .u8 0, .int .u8 0, .int .u8 0, .int .i64 0, .int .i64 0, .int .i64 0, .int .i64 0, .int .i64 0, .int .u32 0, .int .u64 0, .int .u64 0, .int .u32 0, .int .u32 0, .int .u32 0, .int .u64 0, .slice none 0 0] 32)).setRow w3.heap.size P.toArray := ⟨_, rfl⟩
            rw [← h4]
            have t4 : Blk w4 w3.heap.size 32 P.toArray := by rw [h4]; exact Z3.out.setRow _
            have b4 : Below w3.heap.size w3 w4 := by rw [h4]; exact below_setRow ((Below.refl _ _).alloc (Nat.le_refl _) _) (Nat.le_refl _) _
            have B4 := Lib.hid (B3.out.trans (b4.mono B3.out.size))
            have T4 := Lib.hid (T3.out.below b4 T3.out.lt)
            have U4 := Lib.hid t4
            have RX4 := Lib.hid (RX3.out.call b4)
            have RC4 := Lib.hid (RC3.out.call b4)
            have RL4 := Lib.hid (RL3.out.call b4)
            obtain ⟨gS, hgS⟩ : ∃ g, w3.heap.size = g := ⟨_, rfl⟩
            rw [hgS] at t4 ⊢
            have RG4 := Lib.hid (rangeAt_blk t4 0 P (fun j u h => by simpa using h))
            have U4 : Hid (Blk w4 gS 32 P.toArray) := Lib.hid t4
            have k4 := Lib.hid (KS.out w4 RL4.out RC4.out)
            clear h4 t4 b4 Z3 RX3 RC3 RL3 T3 B3 KS hgS
            go_wp2_with (refine load_mid_want rfl 32 (.tmp 9) rfl gS 0 rfl P _ RG4.out Tryd.underlying32 rfl IP'.out ?_)
            refine k4.out.mono ?_
            rintro e w5 ⟨v5, rfl, own5, b5⟩
            obtain ⟨A5, n5, cx5, rfl, hnx5, hcx5, rd5⟩ := OwnB.sl own5
            have B5 := Lib.hid (B4.out.trans (b5.mono B4.out.size))
            have T5 := Lib.hid (T4.out.below b5 T4.out.lt)
            have U5 := Lib.hid (U4.out.below b5 U4.out.lt)
            have RX5 := Lib.hid (RX4.out.call b5)
            have RC5 := Lib.hid (RC4.out.call b5)
            have RL5 := Lib.hid (RL4.out.call b5)
            have RY5 := Lib.hid rd5
            clear own5 b5 rd5 hnx5 hcx5 RG4 k4 T4 U4 RX4 RC4 RL4 B4
            have hw := within_bd cut 0 ((n2 : Int) - 1) (by omega)
            have HW := Lib.hid (book_within cut 0 ((n2 : Int) - 1) w5 (by omega) (by omega) (by omega) c1 c2)
            obtain ⟨kk, hkk⟩ : ∃ kk : Nat, within cut 0 ((n2 : Int) - 1) = (kk : Int) := ⟨(within cut 0 ((n2 : Int) - 1)).toNat, by omega⟩
            have hkn : kk < n2 := by omega
            have hkc : (kk : Int) ≤ cx2 := by omega
            have HKK := Lib.hid hkk
            clear hw hkk
            go_wp2_with fail
            refine HW.out.mono ?_
            rintro e w6 ⟨rfl, rfl⟩
            rw [HKK.out]
            have hpre := reqDec_pre x kk S (by have := EX2.out; omega) S1.out
            have hrk := RX5.out.pre (k := kk) (by omega)
            rw [show (byv x).take kk = byv (x.take kk) by simp [byv]] at hrk
            have hEw := (B5.out.cell (p := ⟨0, 0, none⟩) (World.block_lt_of_cell? _ _ HE.out)).trans HE.out
            have hDK := request_decode (x.take kk) A2 kk cx2 w5 hrk (by omega) (fun y hy => HXL.out y (List.mem_of_mem_take hy)) hEw
            have hfk := reqDec_fine (x.take kk) (fun y hy => HXL.out y (List.mem_of_mem_take hy))
            obtain ⟨⟨E7, S7⟩, hE7⟩ : ∃ y, reqDec (x.take kk) = y := ⟨_, rfl⟩
            rw [hE7] at hDK hpre hfk
            dsimp only at hDK hpre hfk
            have HDK := Lib.hid hDK
            have PRE := Lib.hid hpre
            have FK := Lib.hid hfk
            clear hDK hpre hfk hrk hEw hE7 HW HKK
            go_wp2_with fail
            refine HDK.out.mono ?_
            rintro e w7 ⟨cav7, lv7, r7, rfl, oc7, ol7, er7, b7⟩
            obtain ⟨A7, n7, cc7, rfl, -, -, -, -⟩ := OwnC.sl oc7
            obtain ⟨Al7, m7, cl7, rfl, -, -, -⟩ := OwnB.sl ol7
            have lQ := req_size S7 (.slice A7 n7 cc7) (.slice Al7 m7 cl7) FK.out.tag
            have oQ := reqv_one S7 (.slice A7 n7 cc7) (.slice Al7 m7 cl7) rfl rfl
            obtain ⟨Q, hQ⟩ : ∃ Q, reqv S7 (.slice A7 n7 cc7) (.slice Al7 m7 cl7) = Q := ⟨_, rfl⟩
            rw [hQ] at lQ oQ ⊢
            have IQ := Lib.hid (show (Tryd.prog.info? 32).map (·.size) = some Q.toArray.size by rw [List.size_toArray, lQ]; exact Tryd.req_info)
            have LQ := Lib.hid lQ
            have OQ := Lib.hid oQ
            obtain ⟨h7, rfl⟩ : ∃ h7, r7 = .iface 91 (.pointer (some ⟨h7, 0, none⟩)) := by
              cases E7 with
              | none => exact absurd rfl PRE.out
              | some y => obtain ⟨h7, e7, -⟩ := er7; exact ⟨h7, e7⟩
            have B7 := Lib.hid (B5.out.trans (b7.mono B5.out.size))
            have T7 := Lib.hid (T5.out.below b7 T5.out.lt)
            have U7 := Lib.hid (U5.out.below b7 U5.out.lt)
            have RX7 := Lib.hid (RX5.out.call b7)
            have RC7 := Lib.hid (RC5.out.call b7)
            have RL7 := Lib.hid (RL5.out.call b7)
            have RY7 := Lib.hid (RY5.out.call b7)
            have Z7 := Lib.hid (Blk.new w7 32 #[.int .i64 0, .int .u32 0, .slice none 0 0, .int .u8 0, .int .u8 0, .int .u8 0, .int .u8 0, .int .u8 0, .int .u8 0, .int .u8 0, .int .u8 0, .int .u8 0, .int .u8 0, .int .u8 0, .int .u8 0, .int .u8 0, .int .u8 0, .int .u8 0, .int .u8 0, .int .u8 0, .int .u8 0, .int .u8 0, .int .u8 0, .int .u8 0, .int .u8 0, .int .u8 0, .int .u8 0, .int .u8 0, .int .u8 0, .int .u8 0, .int .u8 0, .int .u8 0, .int .u8 0, .int .u8 0, .int .u8 0, .int .i64 0, .int .i64 0, .int .i64 0, .int .i64 0, .int .i64 0, .int .u32 0, .int .u64 0, .int .u64 0, .int .u32 0, .int .u32 0, .int .u32 0, .int .u64 0, .slice none 0 0])
            clear lQ oQ hQ oc7 ol7 er7 b7 T5 U5 RX5 RC5 RL5 RY5 B5 HDK
            go_upto_region 12 with (refine wpList_store_row rfl 32 (.tmp 13) (.tmp 65) rfl w7.heap.size Q.toArray rfl rfl 32 _ Z7.out IQ.out (by simp [LQ.out]) (by simpa using OQ.out) ?_)
            obtain ⟨w8, h8⟩ : ∃ x, x = (w7.alloc (.cells #[.int .i64 0, .int .u32 0, .slice none 0 0, .int .u8 0, .int .u8 0, .int .u8 0, .int .u8 0, .int .u8 0, .int .u8 0, .int .u8 0, .int .u8 0, .int .u8 0, .int .u8 0, .int .u8 0, .int .u8 0, .int .u8 0, .int .u8 0, .int .u8 0, .int .u8 0, .int .u8 0, .int .u8 0, .int .u8 0, .int .u8 0, .int .u8 0, .int .u8 0, .int .u8 0, .int .u8 0, .int .u8 0, .int .u8 0, .int .u8 0, .int .u8 0, .int .u8 0, .int .u8 0, .int .u8 0, .int .u8 0, .int .i64 0, .int .i64 0, .int .i64 0, .int .i64 0, .int .i64 0, .int .u32 0, .int .u64 0, .int .u64 0, .int .u32 0, .int .u32 0, .int .u32 0, .int .u64 0, .slice none 0 0] 32)).setRow w7.heap.size Q.toArray := ⟨_, rfl⟩
            rw [← h8]
            have b8 : Below w7.heap.size w7 w8 := by rw [h8]; exact below_setRow ((Below.refl _ _).alloc (Nat.le_refl _) _) (Nat.le_refl _) _
            have B8 := Lib.hid (B7.out.trans (b8.mono B7.out.size))
            have T8 := Lib.hid (T7.out.below b8 T7.out.lt)
            have U8 := Lib.hid (U7.out.below b8 U7.out.lt)
            have RX8 := Lib.hid (RX7.out.call b8)
            have RC8 := Lib.hid (RC7.out.call b8)
            have RL8 := Lib.hid (RL7.out.call b8)
            have RY8 := Lib.hid (RY7.out.call b8)
            clear h8 b8 Z7 T7 U7 RX7 RC7 RL7 RY7 B7
            have lTS := tokv_len R.tid (.slice A3 n3 cc3) R.tag HG.out.tag
            have lTR := tokv_len R.tid (.slice Ac n3 cc) R.tag HG.out.tag
            have hcs8 : Reads w8 w8.heap.size 2 A3 n3 (cavv R.cavs) := by rw [← ST.out.2.1]; exact RC8.out
            have ksm := same_token R.tid A3 Ac n3 cc3 cc R.cavs R.tag w8 HG.out.tag HG.out.tagb hcs8 (HCA.out.call B8.out) (by have := SC4.out; have := HNC.out; omega)
            have hPt : ∀ j u, (tokv R.tid (.slice A3 n3 cc3) R.tag)[j]? = some u → P[1 + j]? = some u := by
              have := PTOK.out
              rw [ST.out.1, ST.out.2.2] at this
              exact this
            have hMt := MTOK.out
            obtain ⟨TS, hTS⟩ : ∃ L, tokv R.tid (.slice A3 n3 cc3) R.tag = L := ⟨_, rfl⟩
            obtain ⟨TR, hTR⟩ : ∃ L, tokv R.tid (.slice Ac n3 cc) R.tag = L := ⟨_, rfl⟩
            rw [hTS] at lTS ksm hPt
            rw [hTR] at lTR ksm hMt
            have IS := Lib.hid (show (Tryd.prog.info? 29).map (·.size) = some TS.length by rw [lTS]; exact Tryd.tok_info)
            have IR := Lib.hid (show (Tryd.prog.info? 29).map (·.size) = some TR.length by rw [lTR]; exact Tryd.tok_info)
            have R1 := Lib.hid (rangeAt_blk U8.out 1 TS (fun j u h => by simpa using hPt j u h))
            have R2 := Lib.hid (rangeAt_blk T8.out 1 TR (fun j u h => by simpa using hMt j u h))
            have KSM := Lib.hid ksm
            have a0 := (U8.out.cell 0).trans (show P.toArray[0]? = some (.int .i64 R.op) by rw [← SO.out]; simpa using P0.out)
            have d0 := (T8.out.cell 0).trans (show M.toArray[0]? = some (.int .i64 R.op) by simpa using M0.out)
            have s1 := run_str RX8.out (c := cx2)
            have s2 := run_str RY8.out (c := cx5)
            clear lTS lTR hcs8 ksm hPt hMt hTS hTR
            go_cut [124] (fun s124 wx => s124 = .bool false ∧ Hid (Below W.heap.size W wx))
            case first =>
              by_cases h1 : R.op = 1
              · have htr : treesB R.op = true := by rw [h1]; rfl
                go_wp2_with (first
                  | (refine load_mid_want rfl 29 (.tmp 92) rfl gS 1 rfl TS _ R1.out Tryd.underlying29 rfl IS.out ?_)
                  | (refine load_mid_want rfl 29 (.tmp 94) rfl W.heap.size 1 rfl TR _ R2.out Tryd.underlying29 rfl IR.out ?_))
                refine KSM.out.mono ?_
                rintro e w9 ⟨rfl, b9⟩
                have B9 := Lib.hid (B8.out.trans (b9.mono B8.out.size))
                have U9 := Lib.hid (U8.out.below b9 U8.out.lt)
                have T9 := Lib.hid (T8.out.below b9 T8.out.lt)
                clear a0 d0 s1 s2
                have a0 := (U9.out.cell 0).trans (show P.toArray[0]? = some (.int .i64 R.op) by rw [← SO.out]; simpa using P0.out)
                have d0 := (T9.out.cell 0).trans (show M.toArray[0]? = some (.int .i64 R.op) by simpa using M0.out)
                go_wp2_with fail
                refine (request_trees _ _).mono ?_
                rintro e w10 ⟨rfl, rfl⟩
                have e0 := (U9.out.cell 35).trans (show P.toArray[35]? = some (.int .i64 R.tree) by rw [← STR.out htr]; simpa using PTREE.out)
                have f0 := (T9.out.cell 35).trans (show M.toArray[35]? = some (.int .i64 R.tree) by simpa using MTREE.out)
                have e1 := (U9.out.cell 47).trans (show P.toArray[47]? = some (.slice Al3 m3 cl3) by simpa using PLEAF.out)
                have f1 := (T9.out.cell 47).trans (show M.toArray[47]? = some (.slice Al n1 cl) by simpa using MLEAF.out)
                have s3 := run_str (RL8.out.call b9) (c := cl3)
                have s4 := run_str (HLA.out.call B9.out) (c := cl)
                rw [SLE.out h1] at s3
                rw [h1] at a0 d0
                first | rw [htr] | rw [show treesB 1 = true from rfl]
                clear b9
                go_wp2
                go_meet
                case rel => exact ⟨by simp, B9.out⟩
              · by_cases htr : treesB R.op = true
                · go_wp2_with (first
                    | (refine load_mid_want rfl 29 (.tmp 92) rfl gS 1 rfl TS _ R1.out Tryd.underlying29 rfl IS.out ?_)
                    | (refine load_mid_want rfl 29 (.tmp 94) rfl W.heap.size 1 rfl TR _ R2.out Tryd.underlying29 rfl IR.out ?_))
                  refine KSM.out.mono ?_
                  rintro e w9 ⟨rfl, b9⟩
                  have B9 := Lib.hid (B8.out.trans (b9.mono B8.out.size))
                  have U9 := Lib.hid (U8.out.below b9 U8.out.lt)
                  have T9 := Lib.hid (T8.out.below b9 T8.out.lt)
                  clear a0 d0 s1 s2
                  have a0 := (U9.out.cell 0).trans (show P.toArray[0]? = some (.int .i64 R.op) by rw [← SO.out]; simpa using P0.out)
                  have d0 := (T9.out.cell 0).trans (show M.toArray[0]? = some (.int .i64 R.op) by simpa using M0.out)
                  go_wp2_with fail
                  refine (request_trees _ _).mono ?_
                  rintro e w10 ⟨rfl, rfl⟩
                  have e0 := (U9.out.cell 35).trans (show P.toArray[35]? = some (.int .i64 R.tree) by rw [← STR.out htr]; simpa using PTREE.out)
                  have f0 := (T9.out.cell 35).trans (show M.toArray[35]? = some (.int .i64 R.tree) by simpa using MTREE.out)
                  rw [htr]
                  clear b9
                  go_wp2
                  go_meet
                  case rel => exact ⟨by simp, B9.out⟩
                · have htr : treesB R.op = false := by simpa using htr
                  go_wp2_with (first
                    | (refine load_mid_want rfl 29 (.tmp 92) rfl gS 1 rfl TS _ R1.out Tryd.underlying29 rfl IS.out ?_)
                    | (refine load_mid_want rfl 29 (.tmp 94) rfl W.heap.size 1 rfl TR _ R2.out Tryd.underlying29 rfl IR.out ?_))
                  refine KSM.out.mono ?_
                  rintro e w9 ⟨rfl, b9⟩
                  have B9 := Lib.hid (B8.out.trans (b9.mono B8.out.size))
                  have U9 := Lib.hid (U8.out.below b9 U8.out.lt)
                  have T9 := Lib.hid (T8.out.below b9 T8.out.lt)
                  clear a0 d0 s1 s2
                  have a0 := (U9.out.cell 0).trans (show P.toArray[0]? = some (.int .i64 R.op) by rw [← SO.out]; simpa using P0.out)
                  have d0 := (T9.out.cell 0).trans (show M.toArray[0]? = some (.int .i64 R.op) by simpa using M0.out)
                  go_wp2_with fail
                  refine (request_trees _ _).mono ?_
                  rintro e w10 ⟨rfl, rfl⟩
                  rw [htr]
                  clear b9
                  go_wp2
                  go_meet
                  case rel => exact ⟨by simp, B9.out⟩
            case rest =>
              obtain ⟨rfl, B9⟩ := hcut
              go_wp2
              go_meet
              case rel => exact B9.out
          · have q : ¬ ((e1 : Int) = 0) := by omega
            go_wp2
            go_meet
            case rel => exact B2.out
        case rest =>
          obtain ⟨w3, rfl⟩ : ∃ x, x = wc := ⟨_, rfl⟩
          have B3 : Hid (Below W.heap.size W w3) := hcut
          clear hcut T2 B2 RD2
          have hwhy := reqDec_why bs
          have hfine := reqDec_fine bs HBS.out
          have hfit := reqDec_fit bs HBS.out
          have hEw := (B3.out.cell (p := ⟨0, 0, none⟩) (World.block_lt_of_cell? _ _ HE.out)).trans HE.out
          have hDB := request_decode bs B n d w3 (HRB.out.call B3.out) (by omega) HBS.out hEw
          obtain ⟨⟨E, S⟩, hES⟩ : ∃ y, reqDec bs = y := ⟨_, rfl⟩
          rw [hES] at hDB hfine hfit
          dsimp only at hDB hfine hfit
          have HDB := Lib.hid hDB
          have FF := Lib.hid hfine
          have FS := Lib.hid hfit
          have HES := Lib.hid hES
          clear hDB hfine hfit hES hEw hwhy
          go_wp2_with fail
          refine HDB.out.mono ?_
          rintro e w4 ⟨cav4, lv4, r4, rfl, oc4, ol4, er4, b4⟩
          obtain ⟨A4, n4, cc4, rfl, en4, nc4, mc4, rdc4⟩ := OwnC.sl oc4
          obtain ⟨Al4, m4, cl4, rfl, ml4, mcl4, rdl4⟩ := OwnB.sl ol4
          have em4 : S.leaf.length = m4 := reads_bytes_le rdl4
          have lP := req_size S (.slice A4 n4 cc4) (.slice Al4 m4 cl4) FF.out.tag
          have oP := reqv_one S (.slice A4 n4 cc4) (.slice Al4 m4 cl4) rfl rfl
          have P0 : (reqv S (.slice A4 n4 cc4) (.slice Al4 m4 cl4))[0]? = some (.int .i64 S.op) := rfl
          have kencS := fun w' h1 h2 => request_encode S A4 cc4 Al4 cl4 w' FS.out h1 (by rw [em4]; exact ml4) mcl4 h2 (by rw [← en4]; exact nc4) mc4 FF.out.tid FF.out.cavn
          rw [em4, ← en4] at kencS
          obtain ⟨P, hP⟩ : ∃ P, reqv S (.slice A4 n4 cc4) (.slice Al4 m4 cl4) = P := ⟨_, rfl⟩
          rw [hP] at lP oP P0 ⊢
          simp only [hP] at kencS
          have KS := Lib.hid kencS
          have IP := Lib.hid (show (Tryd.prog.info? 32).map (·.size) = some P.toArray.size by rw [List.size_toArray, lP]; exact Tryd.req_info)
          have IP' := Lib.hid (show (Tryd.prog.info? 32).map (·.size) = some P.length by rw [lP]; exact Tryd.req_info)
          have LP := Lib.hid lP
          have OP := Lib.hid oP
          have P0 := Lib.hid P0
          have B4 := Lib.hid (B3.out.trans (b4.mono B3.out.size))
          have RC4 := Lib.hid rdc4
          have RL4 := Lib.hid rdl4
          have ER4 := Lib.hid er4
          have Z4 := Lib.hid (Blk.new w4 32 #[.int .i64 0, .int .u32 0, .slice none 0 0, .int .u8 0, .int .u8 0, .int .u8 0, .int .u8 0, .int .u8 0, .int .u8 0, .int .u8 0, .int .u8 0, .int .u8 0, .int .u8 0, .int .u8 0, .int .u8 0, .int .u8 0, .int .u8 0, .int .u8 0, .int .u8 0, .int .u8 0, .int .u8 0, .int .u8 0, .int .u8 0, .int .u8 0, .int .u8 0, .int .u8 0, .int .u8 0, .int .u8 0, .int .u8 0, .int .u8 0, .int .u8 0, .int .u8 0, .int .u8 0, .int .u8 0, .int .u8 0, .int .i64 0, .int .i64 0, .int .i64 0, .int .i64 0, .int .i64 0, .int .u32 0, .int .u64 0, .int .u64 0, .int .u32 0, .int .u32 0, .int .u32 0, .int .u64 0, .slice none 0 0])
          clear kencS lP oP hP b4 rdc4 rdl4 oc4 ol4 en4 nc4 mc4 ml4 mcl4 em4 HDB B3 er4
          go_upto_region 15 with (refine wpList_store_row rfl 32 (.tmp 15) (.tmp 128) rfl w4.heap.size P.toArray rfl rfl 32 _ Z4.out IP.out (by simp [LP.out]) (by simpa using OP.out) ?_)
          obtain ⟨w5, h5⟩ : ∃ x, x = (w4.alloc (.cells #[.int .i64 0, .int .u32 0, .slice none 0 0, .int .u8 0, .int .u8 0, .int .u8 0, .int .u8 0, .int .u8 0, .int .u8 0, .int .u8 0, .int .u8 0, .int .u8 0, .int .u8 0, .int .u8 0, .int .u8 0, .int .u8 0, .int .u8 0, .int .u8 0, .int .u8 0, .int .u8 0, .int .u8 0, .int .u8 0, .int .u8 0, .int .u8 0, .int .u8 0, .int .u8 0, .int .u8 0, .int .u8 0, .int .u8 0, .int .u8 0, .int .u8 0, .int .u8 0, .int .u8 0, .int .u8 0, .int .u8 0, .int .i64 0, .int .i64 0, .int .i64 0, .int .i64 0, .int .i64 0, .int .u32 0, .int .u64 0, .int .u64 0, .int .u32 0, .int .u32 0, .int .u32 0, .int .u64 0, .slice none 0 0] 32)).setRow w4.heap.size P.toArray := ⟨_, rfl⟩
          rw [← h5]
          have t5 : Blk w5 w4.heap.size 32 P.toArray := by rw [h5]; exact Z4.out.setRow _
          have b5 : Below w4.heap.size w4 w5 := by rw [h5]; exact below_setRow ((Below.refl _ _).alloc (Nat.le_refl _) _) (Nat.le_refl _) _
          have B5 := Lib.hid (B4.out.trans (b5.mono B4.out.size))
          have RC5 := Lib.hid (RC4.out.call b5)
          have RL5 := Lib.hid (RL4.out.call b5)
          obtain ⟨gS, hgS⟩ : ∃ g, w4.heap.size = g := ⟨_, rfl⟩
          rw [hgS] at t5 ⊢
          have RG5 := Lib.hid (rangeAt_blk t5 0 P (fun j u h => by simpa using h))
          have T5 := Lib.hid t5
          have k5 := Lib.hid (KS.out w5 RL5.out RC5.out)
          clear h5 t5 b5 Z4 RC4 RL4 B4 KS hgS
          cases E with
          | none =>
            have e4 : r4 = .nilIface := ER4.out
            subst e4
            have hb := back_again bs S HBS.out HES.out
            rw [hb] at k5
            have K5 : Hid _ := k5
            clear hb k5
            go_wp2_with (refine load_mid_want rfl 32 (.tmp 15) rfl gS 0 rfl P _ RG5.out Tryd.underlying32 rfl IP'.out ?_)
            refine K5.out.mono ?_
            rintro e w6 ⟨v6, rfl, own6, b6⟩
            obtain ⟨A6, n6, cx6, rfl, -, -, rd6⟩ := OwnB.sl own6
            have B6 := Lib.hid (B5.out.trans (b6.mono B5.out.size))
            have s1 := run_str rd6 (c := cx6)
            have s2 := run_str (HRB.out.call B6.out) (c := d)
            clear own6 b6 rd6 K5
            go_wp2_with fail
            refine (known18 _).mono ?_
            rintro e w7 ⟨rfl, b7⟩
            have B7 := Lib.hid (B6.out.trans (b7.mono B6.out.size))
            clear b7
            go_wp2
            go_ret
            exact ⟨by simp, B7.out⟩
          | some y =>
            obtain ⟨h4, e4, -⟩ := ER4.out
            subst e4
            have hz := reqDec_some HES.out
            have a0 := (T5.out.cell 0).trans (show P.toArray[0]? = some (.int .i64 0) by
              have := P0.out
              rw [hz] at this
              simpa [zeroReq, req0] using this)
            clear hz
            go_wp2_with fail
            refine (known18 _).mono ?_
            rintro e w7 ⟨rfl, b7⟩
            have B7 := Lib.hid (B5.out.trans (b7.mono B5.out.size))
            clear b7
            go_wp2
            go_ret
            exact ⟨by simp, B7.out⟩

end Go.Proofs.YtbkdccamimakoaaDoor
