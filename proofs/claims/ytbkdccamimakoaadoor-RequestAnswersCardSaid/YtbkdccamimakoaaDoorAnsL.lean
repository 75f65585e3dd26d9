/-
  deponentlaw18.RequestAnswers: true.
-/
import Derived.Test.YtbkdccamimakoaaDoorRRsp
import Derived.Test.YtbkdccamimakoaaDoorAnsR
import Derived.Test.YtbkdccamimakoaaDoorSameR
import Derived.Test.YtbkdccamimakoaaDoorRspLaw
import Derived.Test.YtbkdccamimakoaaDoorKnown18
import Derived.Test.YtbkdccamimakoaaDoorIs
namespace Go.Proofs.YtbkdccamimakoaaDoor
open Go.RowKit
set_option linter.unusedVariables false
set_option maxRecDepth 100000

theorem rerr_below {w w' : World} {B : Nat} {v : Value} {E : Option (Nat × Nat)} (h : Hid (RErr w B v E)) (hb : Below w.heap.size w w') : RErr w' B v E := by
  have h := h.out
  cases E with
  | none => exact h
  | some x =>
    obtain ⟨k, e, hB, hk⟩ := h
    exact ⟨k, e, hB, hk.below hb hk.lt⟩

theorem txt_lt1 (l : List Nat) (h : ∀ x ∈ l, x < 256) : ∀ x ∈ txt l, x < 256 := by
  intro x hx
  unfold txt at hx
  rcases List.mem_append.1 hx with hx | hx
  · exact be_lt _ _ x hx
  · exact h x (List.mem_of_mem_take hx)

theorem tokRes_lt1 (id : Nat) (l : List (Int × Nat)) (tag : List Nat) (h : ∀ x ∈ tag, x < 256) : ∀ x ∈ (tokRes id l tag).2, x < 256 := by
  unfold tokRes
  split
  · intro x hx; cases hx
  · split
    · intro x hx
      simp only [List.mem_append] at hx
      rcases hx with ((hx | hx) | hx) | hx
      · exact be_lt _ _ x hx
      · exact be_lt _ _ x hx
      · unfold cavb at hx
        obtain ⟨c, -, hx⟩ := List.mem_flatMap.1 hx
        rcases List.mem_append.1 hx with hx | hx
        · exact be_lt _ _ x hx
        · exact be_lt _ _ x hx
      · exact h x hx
    · intro x hx; cases hx

theorem hdB_lt (h : Hd) (ho : h.Ok) : ∀ x ∈ hdB h, x < 256 := by
  intro x hx
  unfold hdB at hx
  simp only [List.mem_append] at hx
  rcases hx with hx | hx | hx | hx | hx | hx
  · exact be_lt _ _ x hx
  · exact be_lt _ _ x hx
  · exact be_lt _ _ x hx
  · exact be_lt _ _ x hx
  · exact ho.rootb x hx
  · exact ho.tagb x hx

theorem hdB_len (h : Hd) (ho : h.Ok) : (hdB h).length = 85 := by
  unfold hdB
  simp only [List.length_append, be_length, ho.rootl, ho.tagl]

theorem ansB_lt (R : Rsp) (hR : R.Ok) : ∀ x ∈ ansB R, x < 256 := by
  intro x hx
  unfold ansB at hx
  simp only [List.mem_append] at hx
  rcases hx with hx | hx | hx | hx | hx | hx | hx | hx
  · exact be_lt _ _ x hx
  · exact be_lt _ _ x hx
  · exact txt_lt1 _ hR.bytes x hx
  · exact be_lt _ _ x hx
  · obtain ⟨d, hd, hx⟩ := List.mem_flatten.1 hx
    exact (hR.hashes d hd).2 x hx
  · exact be_lt _ _ x hx
  · split at hx
    · cases hx
    · exact hdB_lt _ hR.hd x hx
  · split at hx
    · cases hx
    · exact txt_lt1 _ (tokRes_lt1 _ _ _ hR.tok.2.2.2) x hx

theorem flatten_len : ∀ (l : List (List Nat)), (∀ d ∈ l, d.length = 32) → l.flatten.length = l.length * 32
  | [], _ => rfl
  | d :: l, h => by
    rw [List.flatten_cons, List.length_append, flatten_len l (fun x hx => h x (List.mem_cons_of_mem _ hx)), h d (by simp), List.length_cons]
    omega

theorem ansB_len (R : Rsp) (hR : R.Ok) (h1 : R.hashes.length ≤ 300) (h2 : R.bytes.length ≤ 2000) : (ansB R).length ≤ 20000 := by
  unfold ansB
  have h3 := txt_len_le R.bytes
  have h4 := flatten_len R.hashes (fun d hd => (hR.hashes d hd).1)
  have h5 := tokR_len R.tok hR.tok
  have h6 := txt_len_le (tokR R.tok).2
  have h7 := hdB_len R.hd hR.hd
  simp only [List.length_append, be_length]
  split <;> split <;> (try simp only [List.length_nil]) <;> omega

theorem ansRes_lt (R : Rsp) (hR : R.Ok) : ∀ x ∈ (ansRes R).2, x < 256 := by
  unfold ansRes
  split
  · intro x hx; cases hx
  · split
    · intro x hx; cases hx
    · split
      · exact ansB_lt R hR
      · intro x hx; cases hx

theorem ansRes_len (R : Rsp) (hR : R.Ok) (h1 : R.hashes.length ≤ 300) (h2 : R.bytes.length ≤ 2000) : (ansRes R).2.length ≤ 20000 := by
  unfold ansRes
  split
  · simp
  · split
    · simp
    · split
      · exact ansB_len R hR h1 h2
      · simp

theorem Rsp.Ok.cut {R : Rsp} (h : R.Ok) (a b : Nat) : ({ R with hashes := R.hashes.take a, bytes := R.bytes.take b } : Rsp).Ok :=
  ⟨h.n, fun x hx => h.bytes x (List.mem_of_mem_take hx), fun d hd => h.hashes d (List.mem_of_mem_take hd), h.hd, h.tok⟩

theorem digv_take (l : List (List Nat)) (h : ∀ d ∈ l, d.length = 32) (k : Nat) : digv (l.take k) = (digv l).take (k * 32) := by
  induction l generalizing k with
  | nil => simp [digv]
  | cons d l ih =>
    cases k with
    | zero => simp [digv]
    | succ k =>
      have hd : (byv d).length = 32 := by rw [byv_length, h d (by simp)]
      have := ih (fun x hx => h x (List.mem_cons_of_mem _ hx)) k
      unfold digv at this ⊢
      rw [List.take_succ_cons, List.flatMap_cons, List.flatMap_cons, this, List.take_append, hd, show (k + 1) * 32 - 32 = k * 32 by omega, List.take_of_length_le (l := byv d) (i := (k + 1) * 32) (by rw [hd]; omega)]

theorem Reads.preD {w : World} {B n k : Nat} {A : Option Addr} {l : List (List Nat)} (h : Reads w B 32 A n (digv l)) (hl : ∀ d ∈ l, d.length = 32) (hk : k ≤ n) : Reads w B 32 A k (digv (l.take k)) := by
  have hn : (digv l).length = n * 32 := h.1
  refine ⟨by rw [digv_take l hl, List.length_take, hn]; omega, fun hk0 => ?_⟩
  obtain ⟨ad, e, hb, hc⟩ := h.2 (by omega)
  exact ⟨ad, e, hb, fun j u hu => hc j u (by rw [digv_take l hl, List.getElem?_take] at hu; split at hu <;> simp_all)⟩

theorem ans_small (R : Rsp) (x : List Nat) (h : ansRes R = (0, x)) : R.tok.2.1.length ≤ 4 := by
  unfold ansRes at h
  split at h
  · cases h
  · split at h
    · cases h
    · split at h
      · rename_i h1 h2 h3
        have ht := h3.2
        unfold tokR tokRes at ht
        split at ht
        · cases ht
        · omega
      · cases h

theorem rspDec_small (bs : List Nat) (hb : ∀ x ∈ bs, x < 256) : (rspDec bs).2.bytes.length ≤ 65536 ∧ (rspDec bs).2.hashes.length ≤ 256 ∧ (rspDec bs).2.tok.2.1.length ≤ 4 := by
  have h0 : zeroRsp.bytes.length ≤ 65536 ∧ zeroRsp.hashes.length ≤ 256 ∧ zeroRsp.tok.2.1.length ≤ 4 := by decide
  unfold rspDec
  split
  · refine ⟨Nat.le_trans (rBytes_len bs (rp2 bs).1 65536 hb) (by decide), ?_, ?_⟩
    · have h1 := (digGo_ok bs hb (rp4 bs).2 (rp4 bs).1 [] (fun d hd => (nomatch hd))).2
      have h2 := rNum_lt bs (rp3 bs).1 1 hb
      have h3 : (rp4 bs).2 < 256 := h2
      show (rp5 bs).2.length ≤ 256
      unfold rp5
      rw [h1]
      simp
      omega
    · show (rp9 bs).2.2.1.length ≤ 4
      unfold rp9
      split
      · exact (tokDec_Ok _ (rBytes_lt bs _ _ hb)).2
      · exact (by decide : zeroTok.2.1.length ≤ 4)
  · exact h0

-- END BY HAND

set_option maxHeartbeats 8000000 in
theorem answers_walk (R0 : Rsp) (Ab : Option Addr) (cb : Nat) (Ah : Option Addr) (ch : Nat) (Ac : Option Addr) (cc : Nat) (B : Option Addr) (kb d : Nat) (bs0 : List Nat) (W : World)
    (hE : W.cell? ⟨0, 0, none⟩ = some (.iface 148 (.agg #[.pointer (some ⟨1, 34, none⟩)])))
    (hg : R0.Ok) (hrb : Reads W W.heap.size 1 Ab R0.bytes.length (byv R0.bytes)) (hbc : R0.bytes.length ≤ cb) (hbm : cb ≤ maxLen) (hrh : Reads W W.heap.size 32 Ah R0.hashes.length (digv R0.hashes)) (hhc : R0.hashes.length ≤ ch) (hhm : ch ≤ maxLen)
    (hrc : Reads W W.heap.size 2 Ac R0.tok.2.1.length (cavv R0.tok.2.1)) (hcc : R0.tok.2.1.length ≤ cc) (hcm : cc ≤ maxLen)
    (hrd : Reads W W.heap.size 1 B kb (byv bs0)) (hkd : kb ≤ d) (hd : d ≤ maxLen) (hb0 : ∀ x ∈ bs0, x < 256) :
    Calls Tryd.prog 5 #[.agg (rspv R0 (.slice Ab R0.bytes.length cb) (.slice Ah R0.hashes.length ch) (.slice Ac R0.tok.2.1.length cc)).toArray, .slice B kb d] W fun e w' => e = .returned (.bool true) ∧ Below W.heap.size W w' := by
  unfold maxLen at hbm hhm hcm hd
  obtain ⟨R, hR⟩ : ∃ R : Rsp, R = { R0 with hashes := R0.hashes.take 300, bytes := R0.bytes.take 2000 } := ⟨_, rfl⟩
  have hG : R.Ok := by rw [hR]; exact hg.cut 300 2000
  obtain ⟨nb, hnb⟩ : ∃ n, R.bytes.length = n := ⟨_, rfl⟩
  obtain ⟨nh, hnh⟩ : ∃ n, R.hashes.length = n := ⟨_, rfl⟩
  obtain ⟨nc, hnc⟩ : ∃ n, R.tok.2.1.length = n := ⟨_, rfl⟩
  obtain ⟨Kb, hKb⟩ : ∃ n, R0.bytes.length = n := ⟨_, rfl⟩
  obtain ⟨Kh, hKh⟩ : ∃ n, R0.hashes.length = n := ⟨_, rfl⟩
  have hnb' : nb = min 2000 Kb := by rw [← hnb, hR, ← hKb]; simp
  have hnh' : nh = min 300 Kh := by rw [← hnh, hR, ← hKh]; simp
  have hct : R0.tok = R.tok := by rw [hR]
  rw [hKb] at hrb hbc ⊢
  rw [hKh] at hrh hhc ⊢
  rw [hct, hnc] at hrc hcc ⊢
  have hrb1 : Reads W W.heap.size 1 Ab nb (byv R.bytes) := by
    have := hrb.pre (k := nb) (by omega)
    rw [show byv R.bytes = (byv R0.bytes).take nb by
      rw [hR]
      show byv (R0.bytes.take 2000) = _
      rw [hnb']
      simp only [byv, List.map_take]
      rcases Nat.le_total 2000 Kb with h | h
      · rw [Nat.min_eq_left h]
      · rw [Nat.min_eq_right h, List.take_of_length_le (by rw [List.length_map, hKb]; exact h), List.take_of_length_le (by rw [List.length_map, hKb]; exact Nat.le_refl _)]]
    exact this
  have hrh1 : Reads W W.heap.size 32 Ah nh (digv R.hashes) := by
    have := hrh.preD (k := nh) (fun x hx => (hg.hashes x hx).1) (by omega)
    rw [show R.hashes = R0.hashes.take nh by
      rw [hR]
      show R0.hashes.take 300 = _
      rw [hnh']
      rcases Nat.le_total 300 Kh with h | h
      · rw [Nat.min_eq_left h]
      · rw [Nat.min_eq_right h, List.take_of_length_le (by omega), List.take_of_length_le (by omega)]]
    exact this
  have s1 := rspv_sethv R0 (.slice Ab Kb cb) (.slice Ah Kh ch) (.slice Ac nc cc) (.slice Ah nh ch) R.hashes
  have s2 := rspv_set2 { R0 with hashes := R.hashes } (.slice Ab Kb cb) (.slice Ah nh ch) (.slice Ac nc cc) (.slice Ab nb cb) R.bytes
  have eR : ({ R0 with hashes := R.hashes, bytes := R.bytes } : Rsp) = R := by rw [hR]
  have s2' : (rspv { R0 with hashes := R.hashes } (.slice Ab Kb cb) (.slice Ah nh ch) (.slice Ac nc cc)).toArray.setIfInBounds 2 (.slice Ab nb cb) = (rspv R (.slice Ab nb cb) (.slice Ah nh ch) (.slice Ac nc cc)).toArray := by rw [s2, ← eR]
  have d3 : (rspv R0 (.slice Ab Kb cb) (.slice Ah Kh ch) (.slice Ac nc cc))[3]? = some (.slice Ah Kh ch) := rfl
  have d2 : (rspv { R0 with hashes := R.hashes } (.slice Ab Kb cb) (.slice Ah nh ch) (.slice Ac nc cc))[2]? = some (.slice Ab Kb cb) := rfl
  have kA := fun w' h1 h2 h3 => request_answer R Ab cb Ah ch Ac cc w' hG h1 (by rw [hnb]; omega) (by unfold maxLen; omega) h2 (by rw [hnh]; omega) (by unfold maxLen; omega) h3 (by rw [hnc]; omega) (by unfold maxLen; omega)
  have kR := fun w' h1 h2 h3 => ref18_answer R Ab cb Ah ch Ac cc w' hG h1 (by rw [hnb]; omega) (by unfold maxLen; omega) h2 (by rw [hnh]; omega) (by unfold maxLen; omega) h3 (by rw [hnc]; omega) (by unfold maxLen; omega)
  rw [hnb, hnh, hnc] at kA kR
  have hsame := fun Bb db Bh dh Bc dc w' => same_response R Ab Bb nb cb db Ah Bh nh ch dh Ac Bc nc cc dc w' hG
  have lM := rspv_len R (.slice Ab nb cb) (.slice Ah nh ch) (.slice Ac nc cc) hG
  have hal := ansRes_lt R hG
  have han := ansRes_len R hG (by omega) (by omega)
  have hth := ans_there R (ansRes R).2 hG
  obtain ⟨⟨yA, xA⟩, hA⟩ : ∃ x, ansRes R = x := ⟨_, rfl⟩
  rw [hA] at hal han hth
  simp only [hA] at kA kR
  dsimp only at hal han hth kA kR
  obtain ⟨L0, hL0⟩ : ∃ L, rspv R0 (.slice Ab Kb cb) (.slice Ah Kh ch) (.slice Ac nc cc) = L := ⟨_, rfl⟩
  obtain ⟨L1, hL1⟩ : ∃ L, rspv { R0 with hashes := R.hashes } (.slice Ab Kb cb) (.slice Ah nh ch) (.slice Ac nc cc) = L := ⟨_, rfl⟩
  obtain ⟨M, hM⟩ : ∃ L, rspv R (.slice Ab nb cb) (.slice Ah nh ch) (.slice Ac nc cc) = L := ⟨_, rfl⟩
  have e01 : Kh = nh → L0 = L1 := fun e => by
    rw [← hL0, ← hL1, e]
    rfl
  have e12 : Kb = nb → L1 = M := fun e => by
    rw [← hL1, ← hM, e, ← eR]
    rfl
  rw [hL0] at d3 s1 ⊢
  rw [hL1] at d2 s1 s2'
  rw [hM] at s2' lM
  simp only [hM] at kA kR hsame
  have KA := Lib.hid kA
  have KR := Lib.hid kR
  have HSAME := Lib.hid hsame
  have HAL := Lib.hid hal
  have HAN := Lib.hid han
  have HTH := Lib.hid hth
  have HAA := Lib.hid hA
  have E01 := Lib.hid e01
  have E12 := Lib.hid e12
  have S1 := Lib.hid s1
  have S2 := Lib.hid s2'
  have D3 := Lib.hid (show L0.toArray[3]? = some (.slice Ah Kh ch) by simpa using d3)
  have D2 := Lib.hid (show L1.toArray[2]? = some (.slice Ab Kb cb) by simpa using d2)
  have HI := Lib.hid (show (Tryd.prog.info? 57).map (·.size) = some M.length by rw [lM]; exact Tryd.rsp_info)
  have HGD := Lib.hid hG
  have RB := Lib.hid hrb1
  have RH := Lib.hid hrh1
  have RC := Lib.hid hrc
  have NB := Lib.hid hnb'
  have NH := Lib.hid hnh'
  have HMM := Lib.hid hM
  have LB := Lib.hid hnb
  have LH := Lib.hid hnh
  have LC := Lib.hid hnc
  -- the bytes
  obtain ⟨n, hn⟩ : ∃ n, min kb 1000 = n := ⟨_, rfl⟩
  obtain ⟨bs, hbs⟩ : ∃ bs, bs0.take n = bs := ⟨_, rfl⟩
  have hrn := hrd.pre (k := n) (by omega)
  rw [show (byv bs0).take n = byv bs by rw [← hbs]; simp [byv]] at hrn
  have hbn : ∀ x ∈ bs, x < 256 := fun x hx => hb0 x (by rw [← hbs] at hx; exact List.mem_of_mem_take hx)
  have hnd : n ≤ d := by omega
  have hn6 : n ≤ 1000 := by omega
  have HRD := Lib.hid hrn
  have HBS := Lib.hid hbn
  have HE := Lib.hid hE
  have HNK := Lib.hid hn
  have hnb2 : nb ≤ 2000 := by omega
  have hnh2 : nh ≤ 300 := by omega
  clear kA kR hsame hal han hth hA e01 e12 s1 s2 s2' d3 d2 lM hG hrb1 hrh1 hrc hnb' hnh' hrn hbn hE hn hbs hM hL0 hL1 eR hR hnb hnh hnc hKb hKh hct hrb hrh hrd hb0 hg
  have t0 : Blk (W.alloc (.cells L0.toArray 57)) W.heap.size 57 L0.toArray := Blk.new _ _ _
  have b0 : Below W.heap.size W (W.alloc (.cells L0.toArray 57)) := (Below.refl _ _).alloc (Nat.le_refl _) _
  obtain ⟨W0, hW0⟩ : ∃ x, x = W.alloc (.cells L0.toArray 57) := ⟨_, rfl⟩
  rw [← hW0] at t0 b0
  have HW0 := Lib.hid hW0
  have T0 := Lib.hid t0
  have B0 := Lib.hid b0
  have c3 := (t0.cell 3).trans D3.out
  have f3 := t0.frozen 3
  clear hW0 t0 b0
  go_enter Tryd.func5, Tryd.ntmps5
  go_upto_region 1 with (fail)
  rw [← HW0.out]
  go_upto_if 21 with (fail)
  go_cut [] (fun wx => Hid (Blk wx W.heap.size 57 L1.toArray) ∧ Hid (Below W.heap.size W wx))
  case first =>
    have hk := NH.out
    by_cases h3 : 300 < Kh
    · have q : (300 : Int) < Kh := by omega
      have q2 : (300 : Int) ≤ ch := by omega
      have e3 : nh = 300 := by omega
      have T1 := Lib.hid (show Blk (W0.setCell ⟨W.heap.size, 3, none⟩ (.slice Ah 300 ch)) W.heap.size 57 L1.toArray by
        rw [← S1.out, e3]
        exact T0.out.set_ 3 _)
      have B1 := Lib.hid (B0.out.setCell (p := ⟨W.heap.size, 3, none⟩) (Nat.le_refl _) (.slice Ah 300 ch))
      clear hk e3
      go_wp2
      go_meet
      case rel => exact ⟨T1, B1⟩
    · have q : ¬ (300 : Int) < Kh := by omega
      have T1 := Lib.hid (show Blk W0 W.heap.size 57 L1.toArray by rw [← E01.out (by omega)]; exact T0.out)
      clear hk
      go_wp2
      go_meet
      case rel => exact ⟨T1, B0⟩
  case rest =>
    obtain ⟨T1, B1⟩ := hcut
    obtain ⟨W1, rfl⟩ : ∃ x, x = wc := ⟨_, rfl⟩
    clear c3 f3 T0 B0
    have c2 := (T1.out.cell 2).trans D2.out
    have f2 := T1.out.frozen 2
    go_upto_if 29 with (fail)
    go_cut [] (fun wx => Hid (Blk wx W.heap.size 57 M.toArray) ∧ Hid (Below W.heap.size W wx))
    case first =>
      have hk := NB.out
      by_cases h3 : 2000 < Kb
      · have q : (2000 : Int) < Kb := by omega
        have q2 : (2000 : Int) ≤ cb := by omega
        have e3 : nb = 2000 := by omega
        have T2 := Lib.hid (show Blk (W1.setCell ⟨W.heap.size, 2, none⟩ (.slice Ab 2000 cb)) W.heap.size 57 M.toArray by
          rw [← S2.out, e3]
          exact T1.out.set_ 2 _)
        have B2 := Lib.hid (B1.out.setCell (p := ⟨W.heap.size, 2, none⟩) (Nat.le_refl _) (.slice Ab 2000 cb))
        clear hk e3
        go_wp2
        go_meet
        case rel => exact ⟨T2, B2⟩
      · have q : ¬ (2000 : Int) < Kb := by omega
        have T2 := Lib.hid (show Blk W1 W.heap.size 57 M.toArray by rw [← E12.out (by omega)]; exact T1.out)
        clear hk
        go_wp2
        go_meet
        case rel => exact ⟨T2, B1⟩
    case rest =>
      obtain ⟨T2, B2⟩ := hcut
      obtain ⟨W2, rfl⟩ : ∃ x, x = wc := ⟨_, rfl⟩
      clear c2 f2 T1 B1
      go_upto_if 36 with (fail)
      go_cut [1] (fun s1 wx => s1 = .slice B n d ∧ wx = W2)
      case first =>
        have hn := HNK.out
        by_cases hk : 1000 < kb
        · have q : (1000 : Int) < kb := by omega
          obtain rfl : n = 1000 := by omega
          clear hn
          go_wp2
          go_meet
          case rel => exact ⟨rfl, rfl⟩
        · have q : ¬ (1000 : Int) < kb := by omega
          obtain rfl : kb = n := by omega
          clear hn
          go_wp2
          go_meet
          case rel => exact ⟨rfl, rfl⟩
      case rest =>
        obtain ⟨rfl, rfl⟩ := hcut
        obtain ⟨W2, rfl⟩ : ∃ x, x = wc := ⟨_, rfl⟩
        have RG2 := Lib.hid (rangeAt_blk T2.out 0 M (fun j u h => by simpa using h))
        go_wp2_with (refine load_mid_want rfl 57 (.tmp 2) rfl W.heap.size 0 rfl M _ RG2.out Tryd.underlying57 rfl HI.out ?_)
        refine (KA.out W2 (RB.out.call B2.out) (RH.out.call B2.out) (RC.out.call B2.out)).mono ?_
        rintro e w3 ⟨v3, rfl, own3, b3⟩
        have B3 := Lib.hid (B2.out.trans (b3.mono B2.out.size))
        have O3 := Lib.hid own3
        have T3 := Lib.hid (T2.out.below b3 T2.out.lt)
        have RG3 := Lib.hid (rangeAt_blk T3.out 0 M (fun j u h => by simpa using h))
        clear own3 b3 T2 RG2
        go_wp2_with (refine load_mid_want rfl 57 (.tmp 2) rfl W.heap.size 0 rfl M _ RG3.out Tryd.underlying57 rfl HI.out ?_)
        refine (KR.out w3 (RB.out.call B3.out) (RH.out.call B3.out) (RC.out.call B3.out)).mono ?_
        rintro e w4 ⟨v4, rfl, own4, b4⟩
        have B4 := Lib.hid (B3.out.trans (b4.mono B3.out.size))
        have T4 := Lib.hid (T3.out.below b4 T3.out.lt)
        obtain ⟨A3, n3, c3, rfl, nc3, mc3, rd3⟩ := (O3.out.kept b4).sl
        obtain ⟨A4, n4, c4, rfl, nc4, mc4, rd4⟩ := own4.sl
        have q3 := run_str (c := c3) rd3
        have q4 := run_str (c := c4) rd4
        obtain ⟨sA, hsA⟩ : ∃ s, bstr xA = s := ⟨_, rfl⟩
        rw [hsA] at q3 q4
        have RD3 := Lib.hid rd3
        have ln3 := reads_bytes_le rd3
        have hn3 : n3 ≤ 20000 := by have := HAN.out; omega
        clear own4 b4 T3 RG3 rd3 rd4 hsA nc4 mc4 ln3 O3 KR KA
        go_upto_if 60 with (fail)
        clear q3 q4
        go_cut [] (fun wx => Hid (Below W.heap.size W wx))
        case first =>
          by_cases hy : yA = 0
          · have hdx := HTH.out (by rw [hy])
            have hRX := request_read xA A3 n3 c3 w4 RD3.out (by omega) HAL.out ((B4.out.cell (p := ⟨0, 0, none⟩) (World.block_lt_of_cell? _ _ HE.out)).trans HE.out)
            rw [hdx] at hRX
            dsimp only at hRX
            have HRX := Lib.hid hRX
            have HN4 := Lib.hid (show nc ≤ 4 by have := ans_small R xA (by rw [HAA.out, hy]); rw [LC.out] at this; exact this)
            have q : (yA : Int) = 0 := by omega
            clear hdx hRX hy
            go_wp2_with fail
            clear q
            refine HRX.out.mono ?_
            rintro e w5 ⟨bv, hv, cav, r, rfl, ob, oh, oc, er, b5⟩
            obtain ⟨A5, n5, c5, rfl, -, -, rb5⟩ := ob.sl
            obtain ⟨H5, m5, d5, rfl, em5, -, -, rh5⟩ := oh.sl
            obtain ⟨C5, k5, e5, rfl, ek5, -, -, rc5⟩ := OwnC.sl oc
            obtain rfl : n5 = nb := (reads_bytes_le rb5).symm.trans LB.out
            obtain rfl : m5 = nh := em5.trans LH.out
            obtain rfl : k5 = nc := ek5.trans LC.out
            have er0 : r = .nilIface := er
            subst er0
            have B5 := Lib.hid (B4.out.trans (b5.mono B4.out.size))
            have T5 := Lib.hid (T4.out.below b5 T4.out.lt)
            have lP5 := rspv_len R (.slice A5 n5 c5) (.slice H5 m5 d5) (.slice C5 k5 e5) HGD.out
            have oP5 := rspv_one R (.slice A5 n5 c5) (.slice H5 m5 d5) (.slice C5 k5 e5) rfl rfl rfl
            obtain ⟨P5, hP5⟩ : ∃ P, rspv R (.slice A5 n5 c5) (.slice H5 m5 d5) (.slice C5 k5 e5) = P := ⟨_, rfl⟩
            rw [hP5] at lP5 oP5 ⊢
            have IP5 := Lib.hid (show (Tryd.prog.info? 57).map (·.size) = some P5.toArray.size by rw [List.size_toArray, lP5]; exact Tryd.rsp_info)
            have JP5 := Lib.hid (show (Tryd.prog.info? 57).map (·.size) = some P5.length by rw [lP5]; exact Tryd.rsp_info)
            have LP5 := Lib.hid lP5
            have OP5 := Lib.hid oP5
            have HP5 := Lib.hid hP5
            clear lP5 oP5 hP5
            have Z5 := Lib.hid (Blk.new w5 57 Tryd.zeroCells57)
            have X1 := Lib.hid rb5
            have X2 := Lib.hid rh5
            have X3 := Lib.hid rc5
            clear rb5 rh5 rc5 ob oh oc b5 er em5 ek5
            go_upto_region 13 with (refine wpList_store_row rfl 57 (.tmp 9) (.tmp 64) rfl w5.heap.size P5.toArray rfl rfl 57 _ Z5.out IP5.out (by simp [LP5.out]) (by simpa using OP5.out) ?_)
            obtain ⟨w6, hw6⟩ : ∃ x, x = (w5.alloc (.cells Tryd.zeroCells57 57)).setRow w5.heap.size P5.toArray := ⟨_, rfl⟩
            rw [← hw6]
            have tw6 : Blk w6 w5.heap.size 57 P5.toArray := by rw [hw6]; exact Z5.out.setRow _
            have bw6 : Below w5.heap.size w5 w6 := by rw [hw6]; exact below_setRow ((Below.refl _ _).alloc (Nat.le_refl _) _) (Nat.le_refl _) _
            clear hw6
            have B6 := Lib.hid (B5.out.trans (bw6.mono B5.out.size))
            have T6 := Lib.hid (T5.out.below bw6 T5.out.lt)
            have RM := Lib.hid (rangeAt_blk T6.out 0 M (fun j u h => by simpa using h))
            have RP := Lib.hid (rangeAt_blk tw6 0 P5 (fun j u h => by simpa using h))
            have hnc4 : k5 ≤ 4 := HN4.out
            have hS := HSAME.out A5 c5 H5 d5 C5 e5 w6 (RB.out.call B6.out) (X1.out.call bw6) (by omega) (RH.out.call B6.out) (X2.out.call bw6) (by omega) (RC.out.call B6.out) (X3.out.call bw6) (by omega)
            rw [HP5.out] at hS
            have HS := Lib.hid hS
            clear hS bw6 tw6 Z5 T5 B5
            go_wp2_with (first
              | (refine load_mid_want rfl 57 (.tmp 2) rfl W.heap.size 0 rfl M _ RM.out Tryd.underlying57 rfl HI.out ?_)
              | (refine load_mid_want rfl 57 (.tmp 9) rfl w5.heap.size 0 rfl P5 _ RP.out Tryd.underlying57 rfl JP5.out ?_))
            refine HS.out.mono ?_
            rintro e w7 ⟨rfl, b7⟩
            have B7 := Lib.hid (B6.out.trans (b7.mono B6.out.size))
            clear b7
            go_wp2
            go_meet
            case rel => exact B7
          · have q : ¬ (yA : Int) = 0 := by omega
            go_wp2
            go_meet
            case rel => exact B4
        case rest =>
          have B5 := hcut
          obtain ⟨w5, rfl⟩ : ∃ x, x = wc := ⟨_, rfl⟩
          clear hcut B4 T4 RD3 HSAME HTH HAA HAL HAN RB RH RC
          have hDR := request_read bs B n d w5 (HRD.out.call B5.out) (by omega) HBS.out ((B5.out.cell (p := ⟨0, 0, none⟩) (World.block_lt_of_cell? _ _ HE.out)).trans HE.out)
          have hRR := fun w' h => ref18_read bs B n d w' h hnd (by omega) HBS.out
          have hok := rspDec_ok bs HBS.out
          have hsm := rspDec_small bs HBS.out
          have hwhy := rspDec_why bs
          have hbk := fun C => ans_back bs C HBS.out
          obtain ⟨⟨E, C⟩, hEC⟩ : ∃ x, rspDec bs = x := ⟨_, rfl⟩
          rw [hEC] at hDR hok hsm hwhy hbk
          simp only [hEC] at hRR
          dsimp only at hDR hRR hok hsm hwhy
          have HDR := Lib.hid hDR
          have HRR := Lib.hid hRR
          have HOK := Lib.hid hok
          have HSM := Lib.hid hsm
          have HWHY := Lib.hid hwhy
          have HBK := Lib.hid (hbk C)
          clear hDR hRR hok hsm hwhy hbk hEC
          go_wp2_with fail
          refine HDR.out.mono ?_
          rintro e w6 ⟨bv, hv, cav, r, rfl, ob, oh, oc, er, b6⟩
          obtain ⟨A6, n6, c6, rfl, nc6, mc6, rb6⟩ := ob.sl
          obtain ⟨H6, m6, d6, rfl, em6, nd6, md6, rh6⟩ := oh.sl
          obtain ⟨C6, k6, e6, rfl, ek6, ne6, me6, rc6⟩ := OwnC.sl oc
          have en6 := reads_bytes_le rb6
          have B6 := Lib.hid (B5.out.trans (b6.mono B5.out.size))
          have lP6 := rspv_len C (.slice A6 n6 c6) (.slice H6 m6 d6) (.slice C6 k6 e6) HOK.out
          have oP6 := rspv_one C (.slice A6 n6 c6) (.slice H6 m6 d6) (.slice C6 k6 e6) rfl rfl rfl
          obtain ⟨P6, hP6⟩ : ∃ P, rspv C (.slice A6 n6 c6) (.slice H6 m6 d6) (.slice C6 k6 e6) = P := ⟨_, rfl⟩
          rw [hP6] at lP6 oP6 ⊢
          have IP6 := Lib.hid (show (Tryd.prog.info? 57).map (·.size) = some P6.toArray.size by rw [List.size_toArray, lP6]; exact Tryd.rsp_info)
          have JP6 := Lib.hid (show (Tryd.prog.info? 57).map (·.size) = some P6.length by rw [lP6]; exact Tryd.rsp_info)
          have LP6 := Lib.hid lP6
          have OP6 := Lib.hid oP6
          have HP6 := Lib.hid hP6
          clear lP6 oP6 hP6
          have Z6 := Lib.hid (Blk.new w6 57 Tryd.zeroCells57)
          have X1 := Lib.hid rb6
          have X2 := Lib.hid rh6
          have X3 := Lib.hid rc6
          have ER6 := Lib.hid (show RErr w6 w5.heap.size r E from er)
          have EN6 := Lib.hid en6
          have EM6 := Lib.hid em6
          have EK6 := Lib.hid ek6
          clear rb6 rh6 rc6 ob oh oc b6 er en6 em6 ek6
          go_upto_region 16 with (refine wpList_store_row rfl 57 (.tmp 11) (.tmp 77) rfl w6.heap.size P6.toArray rfl rfl 57 _ Z6.out IP6.out (by simp [LP6.out]) (by simpa using OP6.out) ?_)
          obtain ⟨w7, hw7⟩ : ∃ x, x = (w6.alloc (.cells Tryd.zeroCells57 57)).setRow w6.heap.size P6.toArray := ⟨_, rfl⟩
          rw [← hw7]
          have tw7 : Blk w7 w6.heap.size 57 P6.toArray := by rw [hw7]; exact Z6.out.setRow _
          have bw7 : Below w6.heap.size w6 w7 := by rw [hw7]; exact below_setRow ((Below.refl _ _).alloc (Nat.le_refl _) _) (Nat.le_refl _) _
          clear hw7
          have B7 := Lib.hid (B6.out.trans (bw7.mono B6.out.size))
          have Y1 := Lib.hid (X1.out.call bw7)
          have Y2 := Lib.hid (X2.out.call bw7)
          have Y3 := Lib.hid (X3.out.call bw7)
          have ER7 := Lib.hid (rerr_below ER6 bw7)
          have TW7 := Lib.hid tw7
          clear bw7 tw7 X1 X2 X3 ER6 Z6
          go_wp2_with fail
          refine (HRR.out w7 (HRD.out.call B7.out)).mono ?_
          rintro e w8 ⟨bv, hv, cav, rfl, ob, oh, oc, b8⟩
          obtain ⟨A8, n8, c8, rfl, -, -, rb8⟩ := ob.sl
          obtain ⟨H8, m8, d8, rfl, em8, -, -, rh8⟩ := oh.sl
          obtain ⟨C8, k8, e8, rfl, ek8, -, -, rc8⟩ := OwnC.sl oc
          obtain rfl : n8 = n6 := (reads_bytes_le rb8).symm.trans EN6.out
          obtain rfl : m8 = m6 := em8.trans EM6.out.symm
          obtain rfl : k8 = k6 := ek8.trans EK6.out.symm
          have B8 := Lib.hid (B7.out.trans (b8.mono B7.out.size))
          have lP8 := rspv_len C (.slice A8 n8 c8) (.slice H8 m8 d8) (.slice C8 k8 e8) HOK.out
          have oP8 := rspv_one C (.slice A8 n8 c8) (.slice H8 m8 d8) (.slice C8 k8 e8) rfl rfl rfl
          obtain ⟨P8, hP8⟩ : ∃ P, rspv C (.slice A8 n8 c8) (.slice H8 m8 d8) (.slice C8 k8 e8) = P := ⟨_, rfl⟩
          rw [hP8] at lP8 oP8 ⊢
          have IP8 := Lib.hid (show (Tryd.prog.info? 57).map (·.size) = some P8.toArray.size by rw [List.size_toArray, lP8]; exact Tryd.rsp_info)
          have JP8 := Lib.hid (show (Tryd.prog.info? 57).map (·.size) = some P8.length by rw [lP8]; exact Tryd.rsp_info)
          have LP8 := Lib.hid lP8
          have OP8 := Lib.hid oP8
          have HP8 := Lib.hid hP8
          clear lP8 oP8 hP8
          have Z8 := Lib.hid (Blk.new w8 57 Tryd.zeroCells57)
          have V1 := Lib.hid rb8
          have V2 := Lib.hid rh8
          have V3 := Lib.hid rc8
          have Y1 := Lib.hid (Y1.out.call b8)
          have Y2 := Lib.hid (Y2.out.call b8)
          have Y3 := Lib.hid (Y3.out.call b8)
          have ER8 := Lib.hid (rerr_below ER7 b8)
          have TW8 := Lib.hid (TW7.out.below b8 TW7.out.lt)
          clear rb8 rh8 rc8 ob oh oc b8 em8 ek8 ER7 TW7
          go_upto_region 17 with (refine wpList_store_row rfl 57 (.tmp 13) (.tmp 82) rfl w8.heap.size P8.toArray rfl rfl 57 _ Z8.out IP8.out (by simp [LP8.out]) (by simpa using OP8.out) ?_)
          obtain ⟨w9, hw9⟩ : ∃ x, x = (w8.alloc (.cells Tryd.zeroCells57 57)).setRow w8.heap.size P8.toArray := ⟨_, rfl⟩
          rw [← hw9]
          have tw9 : Blk w9 w8.heap.size 57 P8.toArray := by rw [hw9]; exact Z8.out.setRow _
          have bw9 : Below w8.heap.size w8 w9 := by rw [hw9]; exact below_setRow ((Below.refl _ _).alloc (Nat.le_refl _) _) (Nat.le_refl _) _
          clear hw9
          have B9 := Lib.hid (B8.out.trans (bw9.mono B8.out.size))
          have Y1 := Lib.hid (Y1.out.call bw9)
          have Y2 := Lib.hid (Y2.out.call bw9)
          have Y3 := Lib.hid (Y3.out.call bw9)
          have V1 := Lib.hid (V1.out.call bw9)
          have V2 := Lib.hid (V2.out.call bw9)
          have V3 := Lib.hid (V3.out.call bw9)
          have ER9 := Lib.hid (rerr_below ER8 bw9)
          have TW9 := Lib.hid (TW8.out.below bw9 TW8.out.lt)
          have RGP := Lib.hid (rangeAt_blk TW9.out 0 P6 (fun j u h => by simpa using h))
          have RGQ := Lib.hid (rangeAt_blk tw9 0 P8 (fun j u h => by simpa using h))
          have HRF := Lib.hid (refused18 E r _ w9 ER9.out HWHY.out)
          have hS := same_response C A6 A8 n8 c6 c8 H6 H8 m8 d6 d8 C6 C8 k8 e6 e8 w9 HOK.out Y1.out V1.out (by have := EN6.out; have := HSM.out; omega) Y2.out V2.out (by have := EM6.out; have := HSM.out; omega) Y3.out V3.out (by have := EK6.out; have := HSM.out; omega)
          rw [HP6.out, HP8.out] at hS
          have HS := Lib.hid hS
          clear hS bw9 tw9 Z8 TW8 ER8
          go_wp2_with fail
          refine HRF.out.mono ?_
          rintro e wu ⟨rfl, rfl⟩
          go_wp2_with (first
            | (refine load_mid_want rfl 57 (.tmp 11) rfl w6.heap.size 0 rfl P6 _ RGP.out Tryd.underlying57 rfl JP6.out ?_)
            | (refine load_mid_want rfl 57 (.tmp 13) rfl w8.heap.size 0 rfl P8 _ RGQ.out Tryd.underlying57 rfl JP8.out ?_))
          refine HS.out.mono ?_
          rintro e wa ⟨rfl, ba⟩
          have BA := Lib.hid (B9.out.trans (ba.mono B9.out.size))
          have TWA := Lib.hid (TW9.out.below ba TW9.out.lt)
          have RGA := Lib.hid (rangeAt_blk TWA.out 0 P6 (fun j u h => by simpa using h))
          have Y1 := Lib.hid (Y1.out.call ba)
          have Y2 := Lib.hid (Y2.out.call ba)
          have Y3 := Lib.hid (Y3.out.call ba)
          clear ba V1 V2 V3 RGP RGQ TW9 HS HRF
          cases E with
          | some x =>
            obtain ⟨hh, he, -, -⟩ := ER9.out
            subst he
            go_wp2_with fail
            refine (known18 _).mono ?_
            rintro e wb ⟨rfl, bb⟩
            have BF := Lib.hid (BA.out.trans (bb.mono BA.out.size))
            clear bb
            go_wp2
            go_ret
            exact ⟨rfl, BF.out⟩
          | none =>
            have he : r = .nilIface := ER9.out
            subst he
            have hA := request_answer C A6 c6 H6 d6 C6 e6 wa HOK.out (by rw [EN6.out]; exact Y1.out) (by rw [EN6.out]; exact nc6) mc6 (by rw [← EM6.out]; exact Y2.out) (by rw [← EM6.out]; exact nd6) md6 (by rw [← EK6.out]; exact Y3.out) (by rw [← EK6.out]; exact ne6) me6
            rw [EN6.out, ← EM6.out, ← EK6.out, HP6.out, HBK.out rfl] at hA
            dsimp only at hA
            have HAN2 := Lib.hid hA
            clear hA nc6 mc6 nd6 md6 ne6 me6
            go_wp2_with (refine load_mid_want rfl 57 (.tmp 11) rfl w6.heap.size 0 rfl P6 _ RGA.out Tryd.underlying57 rfl JP6.out ?_)
            refine HAN2.out.mono ?_
            rintro e wb ⟨vb, rfl, ob, bb⟩
            obtain ⟨Az, nz, cz, rfl, -, -, rz⟩ := ob.sl
            have BB := Lib.hid (BA.out.trans (bb.mono BA.out.size))
            have qz := run_str (c := cz) rz
            have qb := run_str (c := d) (HRD.out.call BB.out)
            obtain ⟨sB, hsB⟩ : ∃ s, bstr bs = s := ⟨_, rfl⟩
            rw [hsB] at qz qb
            clear ob bb rz hsB
            go_wp2_with fail
            refine (known18 _).mono ?_
            rintro e wd ⟨rfl, bd⟩
            have BF := Lib.hid (BB.out.trans (bd.mono BB.out.size))
            clear bd
            go_wp2
            go_ret
            exact ⟨rfl, BF.out⟩

end Go.Proofs.YtbkdccamimakoaaDoor
