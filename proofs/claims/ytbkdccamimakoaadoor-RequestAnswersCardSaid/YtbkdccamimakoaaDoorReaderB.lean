/-
  codec.Reader.Bytes, deponentref2.Reader.Bytes.
-/
import Derived.Test.YtbkdccamimakoaaDoorRDecode
namespace Go.Proofs.YtbkdccamimakoaaDoor
open Go.RowKit
set_option linter.unusedVariables false
set_option maxRecDepth 100000

/-- A text read, of no more than so many bytes. -/
def rBytes (bs : List Nat) (s : RSt) (most : Nat) : RSt × List Nat :=
  rTake bs (if (rNum bs s 2).1.2 = none ∧ most < (rNum bs s 2).2 then (s.1, some (s.1, 3)) else (rNum bs s 2).1) (rNum bs s 2).2

theorem rBytes_lt (bs : List Nat) (s : RSt) (m : Nat) (h : ∀ x ∈ bs, x < 256) : ∀ x ∈ (rBytes bs s m).2, x < 256 := rTake_lt _ _ _ h

theorem rTake_le (bs : List Nat) (s : RSt) (m : Nat) (h : s.1 ≤ bs.length) : (rTake bs s m).1.1 ≤ bs.length := by
  unfold rTake
  split
  · exact h
  · split
    · dsimp only; omega
    · exact h

theorem Rd.at_le {w : World} {B g : Nat} {bs : List Nat} {s : RSt} (h : Rd w B g bs s) : s.1 ≤ bs.length := by
  obtain ⟨A, n, c, p, hg, hB, ho, hn, hc, hs, hm, hp⟩ := h
  omega

set_option maxHeartbeats 2000000 in
theorem reader_bytes (B g : Nat) (bs : List Nat) (s : RSt) (m : Nat) (w : World) (h : Rd w B g bs s) (hb : ∀ x ∈ bs, x < 256) (hm : m ≤ 65536) :
    Calls Tryd.prog 27 #[.pointer (some ⟨g, 0, none⟩), .int .i64 m] w fun e w' => ∃ v, e = .returned v ∧ OwnB w' w.heap.size v (rBytes bs s m).2 ∧ Rd w' B g bs (rBytes bs s m).1 ∧ w.grownBy w' (some g) := by
  have h' := h
  obtain ⟨A, n, c, p, hg, -⟩ := h'
  have c1 := hg.cell 1
  rw [show (#[Value.slice A n c, .int .i64 (s.1 : Int), .pointer p] : Array Value)[1]? = some (.int .i64 (s.1 : Int)) from rfl] at c1
  have H := Lib.hid h
  clear h hg
  go_enter Tryd.func27, Tryd.ntmps27
  go_wp2_with fail
  refine (reader_number B g bs s 2 w H.out hb).mono ?_
  rintro e w1 ⟨rfl, h1, g1⟩
  have hlt := rNum_lt bs s 2 hb
  have e2 : sizeN 2 = 2 := rfl
  rw [e2] at h1 ⊢
  clear e2
  have hRB : rBytes bs s m = rTake bs (if (rNum bs s 2).1.2 = none ∧ m < (rNum bs s 2).2 then (s.1, some (s.1, 3)) else (rNum bs s 2).1) (rNum bs s 2).2 := rfl
  have hsl := H.out.at_le
  obtain ⟨⟨s1, k⟩, hk⟩ : ∃ x, rNum bs s 2 = x := ⟨_, rfl⟩
  rw [hk] at h1 hlt hRB ⊢
  dsimp only at h1 hlt hRB ⊢
  have hk2 : k < 65536 := Nat.lt_of_lt_of_eq hlt (by decide)
  have kw : IntKind.i64.wrap (k : Int) = k := IntWalk.i64_in _ (by omega)
  have HRB := Lib.hid hRB
  have h1' := h1
  obtain ⟨A1, n1, c1', p1, hg1, hB1, ho1, hn1, hc1, hs1, hm1, hp1⟩ := h1'
  have c2 := hg1.cell 2
  have f1 := hg1.frozen 1
  have d1 := hg1.cell 1
  rw [show (#[Value.slice A1 n1 c1', .int .i64 (s1.1 : Int), .pointer p1] : Array Value)[2]? = some (.pointer p1) from rfl] at c2
  rw [show (#[Value.slice A1 n1 c1', .int .i64 (s1.1 : Int), .pointer p1] : Array Value)[1]? = some (.int .i64 (s1.1 : Int)) from rfl] at d1
  have H1 := Lib.hid h1
  have G1 := Lib.hid g1
  have HP := Lib.hid hp1
  have hlt1 := hg1.lt
  have HG1 := Lib.hid hg1
  have HO1 := Lib.hid ho1
  clear h1 g1 hlt hRB hk c1 hp1 hg1 ho1
  cases hs2 : s1.2 with
  | some x =>
    have hx := HP.out
    rw [hs2] at hx
    obtain ⟨kb, rfl, hkB, hkb⟩ := hx
    have e : Hid (rBytes bs s m = rTake bs s1 k) := by
      show _ = _
      rw [HRB.out, if_neg (by rw [hs2]; simp)]
    have T := Lib.hid (reader_take B g bs s1 k w1 H1.out (by omega))
    clear hkb
    go_wp2_with fail
    refine T.out.mono ?_
    rintro e2 w2 ⟨A2, n2, c2, rfl, hnc2, rd2, h2, g2⟩
    go_wp2_with fail
    refine (clone_bytes A2 n2 c2 w2.heap.size _ w2 rd2 (byv_one _) (by have := reads_bytes_le rd2; have := rTake_len bs s1 k; omega)).mono ?_
    rintro e3 w3 ⟨v, rfl, own3, b3⟩
    have l2 := reads_bytes_le rd2
    go_wp2
    go_ret
    rw [e.out]
    refine ⟨v, rfl, OwnB.mono (base := w2.heap.size) (by unfold OwnB; rw [l2]; exact own3) ?_, h2.below b3, ?_⟩
    · exact Nat.le_trans G1.out.size g2.size
    · exact only_trans (only_trans G1.out g2 (fun d e => by injection e with e; exact .inl e.symm)) (only_of_below b3 none) (fun d e => by cases e)
  | none =>
    have hx := HP.out
    rw [hs2] at hx
    obtain rfl : p1 = none := hx
    by_cases hkm : m < k
    · have q : (m : Int) < k := by omega
      have e : Hid (rBytes bs s m = rTake bs (s.1, some (s.1, 3)) k) := by
        show _ = _
        rw [HRB.out, if_pos ⟨hs2, hkm⟩]
      have hset : Rd (w1.setCell ⟨g, 1, none⟩ (.int .i64 (s.1 : Int))) B g bs (s.1, none) :=
        ⟨A1, n1, c1', none, HG1.out.set_ 1 _, hB1, OwnB.far HO1.out (p := ⟨g, 1, none⟩) (OwnB.blk_ne HO1.out HG1.out (by decide)) _, hn1, hc1, by dsimp only; omega, hm1, rfl⟩
      have HSET := Lib.hid hset
      have GS := Lib.hid (only_setCell (p := ⟨g, 1, none⟩) G1.out (.inl rfl) (.int .i64 (s.1 : Int)))
      clear hset
      go_upto_region 5 with (fail)
      obtain ⟨wa, hwa⟩ : ∃ x, x = w1.setCell ⟨g, 1, none⟩ (.int .i64 (s.1 : Int)) := ⟨_, rfl⟩
      rw [← hwa] at HSET GS ⊢
      clear hwa c2 d1 f1
      go_wp2_with fail
      refine (reader_refuse B g bs (s.1, none) s.1 3 wa HSET.out (by decide)).mono ?_
      rintro e5 wb ⟨rfl, hb5, g5⟩
      have GB := Lib.hid (only_trans GS.out g5 (fun d e => by injection e with e; exact .inl e.symm))
      have T := Lib.hid (reader_take B g bs (s.1, some (s.1, 3)) k wb hb5 (by omega))
      clear hb5 g5
      go_wp2_with fail
      refine T.out.mono ?_
      rintro e2 w2 ⟨A2, n2, c2, rfl, hnc2, rd2, h2, g2⟩
      go_wp2_with fail
      refine (clone_bytes A2 n2 c2 w2.heap.size _ w2 rd2 (byv_one _) (by have := reads_bytes_le rd2; have := rTake_len bs (s.1, some (s.1, 3)) k; omega)).mono ?_
      rintro e3 w3 ⟨v, rfl, own3, b3⟩
      have l2 := reads_bytes_le rd2
      go_wp2
      go_ret
      rw [e.out]
      refine ⟨v, rfl, OwnB.mono (base := w2.heap.size) (by unfold OwnB; rw [l2]; exact own3) ?_, h2.below b3, ?_⟩
      · exact Nat.le_trans GB.out.size g2.size
      · exact only_trans (only_trans GB.out g2 (fun d e => by injection e with e; exact .inl e.symm)) (only_of_below b3 none) (fun d e => by cases e)
    · have q : ¬ (m : Int) < k := by omega
      have e : Hid (rBytes bs s m = rTake bs s1 k) := by
        show _ = _
        rw [HRB.out, if_neg (fun h => hkm h.2)]
      have T := Lib.hid (reader_take B g bs s1 k w1 H1.out (by omega))
      go_wp2_with fail
      refine T.out.mono ?_
      rintro e2 w2 ⟨A2, n2, c2, rfl, hnc2, rd2, h2, g2⟩
      go_wp2_with fail
      refine (clone_bytes A2 n2 c2 w2.heap.size _ w2 rd2 (byv_one _) (by have := reads_bytes_le rd2; have := rTake_len bs s1 k; omega)).mono ?_
      rintro e3 w3 ⟨v, rfl, own3, b3⟩
      have l2 := reads_bytes_le rd2
      go_wp2
      go_ret
      rw [e.out]
      refine ⟨v, rfl, OwnB.mono (base := w2.heap.size) (by unfold OwnB; rw [l2]; exact own3) ?_, h2.below b3, ?_⟩
      · exact Nat.le_trans G1.out.size g2.size
      · exact only_trans (only_trans G1.out g2 (fun d e => by injection e with e; exact .inl e.symm)) (only_of_below b3 none) (fun d e => by cases e)

set_option maxHeartbeats 2000000 in
theorem rreader_bytes (g : Nat) (bs : List Nat) (s : RSt) (m : Nat) (w : World) (h : RRd w g bs s) (hb : ∀ x ∈ bs, x < 256) (hm : m ≤ 65536) :
    Calls Tryd.prog 32 #[.pointer (some ⟨g, 0, none⟩), .int .i64 m] w fun e w' => ∃ v, e = .returned v ∧ OwnB w' w.heap.size v (rBytes bs s m).2 ∧ RRd w' g bs (rBytes bs s m).1 ∧ w.grownBy w' (some g) := by
  have h' := h
  obtain ⟨A, n, c, hg, hr, hn, hc, hs, hmm⟩ := h'
  have c1 := hg.cell 1
  rw [show (#[Value.slice A n c, .int .i64 (s.1 : Int), .int .i64 (whyOf s.2 : Nat), .int .i64 (atOf s.2 : Nat), .bool s.2.isSome] : Array Value)[1]? = some (.int .i64 (s.1 : Int)) from rfl] at c1
  have hsl : s.1 ≤ bs.length := by omega
  have H := Lib.hid h
  clear h hg hr
  go_enter Tryd.func32, Tryd.ntmps32
  go_wp2_with fail
  refine (rreader_number g bs s 2 w H.out hb).mono ?_
  rintro e w1 ⟨rfl, h1, g1⟩
  have hlt := rNum_lt bs s 2 hb
  have e2 : sizeN 2 = 2 := rfl
  rw [e2] at h1 ⊢
  clear e2
  have hRB : rBytes bs s m = rTake bs (if (rNum bs s 2).1.2 = none ∧ m < (rNum bs s 2).2 then (s.1, some (s.1, 3)) else (rNum bs s 2).1) (rNum bs s 2).2 := rfl
  obtain ⟨⟨s1, k⟩, hk⟩ : ∃ x, rNum bs s 2 = x := ⟨_, rfl⟩
  rw [hk] at h1 hlt hRB ⊢
  dsimp only at h1 hlt hRB ⊢
  have hk2 : k < 65536 := Nat.lt_of_lt_of_eq hlt (by decide)
  have kw : IntKind.i64.wrap (k : Int) = k := IntWalk.i64_in _ (by omega)
  have HRB := Lib.hid hRB
  have h1' := h1
  obtain ⟨A1, n1, c1', hg1, hr1, hn1, hc1, hs1, hm1⟩ := h1'
  have c4 := h1.flag
  have f1 := hg1.frozen 1
  have d1 := hg1.cell 1
  rw [show (#[Value.slice A1 n1 c1', .int .i64 (s1.1 : Int), .int .i64 (whyOf s1.2 : Nat), .int .i64 (atOf s1.2 : Nat), .bool s1.2.isSome] : Array Value)[1]? = some (.int .i64 (s1.1 : Int)) from rfl] at d1
  have H1 := Lib.hid h1
  have G1 := Lib.hid g1
  have hlt1 := hg1.lt
  have HG1 := Lib.hid hg1
  have HR1 := Lib.hid hr1
  clear h1 g1 hlt hRB hk c1 hg1 hr1
  cases hs2 : s1.2 with
  | some x =>
    rw [hs2, show (some x).isSome = true from rfl] at c4
    have e : Hid (rBytes bs s m = (s1, [])) := by
      show _ = _
      rw [HRB.out, if_neg (by rw [hs2]; simp), rTake_ref bs s1 k x hs2]
    go_wp2
    go_ret
    rw [e.out]
    exact ⟨_, rfl, OwnB.nil _ _, H1.out, G1.out⟩
  | none =>
    rw [hs2, show (none : Option (Nat × Nat)).isSome = false from rfl] at c4
    by_cases hkm : m < k
    · have q : (m : Int) < k := by omega
      have e : Hid (rBytes bs s m = ((s.1, some (s.1, 3)), [])) := by
        show _ = _
        rw [HRB.out, if_pos ⟨hs2, hkm⟩, rTake_ref bs _ k (s.1, 3) rfl]
      have hset : RRd (w1.setCell ⟨g, 1, none⟩ (.int .i64 (s.1 : Int))) g bs (s.1, none) := by
        have hb1 := HG1.out.set_ 1 (.int .i64 (s.1 : Int))
        rw [hs2] at hb1
        exact ⟨A1, n1, c1', hb1, HR1.out.setCell (p := ⟨g, 1, none⟩) (Nat.le_refl _) _, hn1, hc1, by dsimp only; omega, hm1⟩
      have HSET := Lib.hid hset
      have GS := Lib.hid (only_setCell (p := ⟨g, 1, none⟩) G1.out (.inl rfl) (.int .i64 (s.1 : Int)))
      clear hset
      go_upto_region 7 with (fail)
      obtain ⟨wa, hwa⟩ : ∃ x, x = w1.setCell ⟨g, 1, none⟩ (.int .i64 (s.1 : Int)) := ⟨_, rfl⟩
      rw [← hwa] at HSET GS ⊢
      clear hwa c4 d1 f1
      go_wp2_with fail
      refine (rreader_refuse g bs (s.1, none) s.1 3 wa HSET.out).mono ?_
      rintro e5 wb ⟨rfl, hb5, g5⟩
      have GB := Lib.hid (only_trans GS.out g5 (fun d e => by injection e with e; exact .inl e.symm))
      have HB5 := Lib.hid hb5
      clear hb5 g5
      go_wp2
      go_ret
      rw [e.out]
      exact ⟨_, rfl, OwnB.nil _ _, HB5.out, GB.out⟩
    · have q : ¬ (m : Int) < k := by omega
      have e : Hid (rBytes bs s m = rTake bs s1 k) := by
        show _ = _
        rw [HRB.out, if_neg (fun h => hkm h.2)]
      have T := Lib.hid (rreader_take g bs s1 k (w1.alloc (.cells #[] 5)) (H1.out.below ((Below.refl _ _).alloc (Nat.le_refl _) _)) (by omega))
      have h0 : OwnB (w1.alloc (.cells #[] 5)) w1.heap.size (.slice (some ⟨w1.heap.size, 0, none⟩) 0 0) [] := OwnB.made w1 [] (by simp [maxLen])
      have H0 := Lib.hid h0
      clear h0
      go_wp2_with fail
      refine T.out.mono ?_
      rintro e2 w2 ⟨A2, n2, c2, rfl, hnc2, rd2, h2, g2⟩
      have own2 : OwnB w2 w1.heap.size (.slice (some ⟨w1.heap.size, 0, none⟩) 0 0) [] := World.ownsRow.kept H0.out g2 (.inr (own_blk_ne H0.out (HG1.out.alloc _) (by decide)))
      have l2 := reads_bytes_le rd2
      have hle := rTake_len bs s1 k
      have hgw := h2.lt
      have rd2' := rd2.more (B' := w2.heap.size) (Nat.le_of_lt hgw)
      have s12 := g2.size
      have H2 := Lib.hid h2
      have G2 := Lib.hid g2
      clear h2 g2 rd2
      go_wp2_with (at_builtin; refine append_bytes rfl (.tmp 28) (.tmp 31) rfl w1.heap.size _ [] rfl own2 A2 n2 c2 (rTake bs s1 k).2 rfl rd2' (by simp; omega) (by rw [alloc_size] at s12; omega) ?_)
      intro v w3 own3 b3 g3
      go_wp2
      go_ret
      rw [e.out]
      have b3' : Below w1.heap.size w2 w3 := b3
      refine ⟨v, rfl, OwnB.mono (by simpa using own3) G1.out.size, ?_, ?_⟩
      · obtain ⟨A5, n5, c5, hg5, hr5, rest⟩ := H2.out
        exact ⟨A5, n5, c5, hg5.below b3' hlt1, hr5.below (b3'.mono (Nat.le_of_lt hlt1)), rest⟩
      · have q5 := only_trans (only_alloc G1.out (.cells #[] 5)) G2.out (fun d e => by injection e with e; exact .inl e.symm)
        exact ⟨b3'.os.trans q5.os, b3'.tape.trans q5.tape, b3'.output.trans q5.output, Nat.le_trans q5.size b3'.size, fun i hi hne => (b3'.block i (Nat.lt_of_lt_of_le hi G1.out.size)).trans (q5.block i hi hne)⟩

set_option maxHeartbeats 2000000 in
/-- The error that a reader's end gives. -/
theorem request_ended (B g : Nat) (bs : List Nat) (s : RSt) (w : World) (h : Rd w B g bs s) (hE : w.cell? ⟨0, 0, none⟩ = some (.iface 148 (.agg #[.pointer (some ⟨1, 34, none⟩)]))) :
    Calls Tryd.prog 31 #[.pointer (some ⟨g, 0, none⟩)] w fun e w' => ∃ v, e = .returned v ∧ RErr w' w.heap.size v (rEnd bs s) ∧ Below w.heap.size w w' := by
  have p0 := Blk.new w 91 #[.pointer none]
  obtain ⟨W0, hW0⟩ : ∃ x, x = w.alloc (.cells #[.pointer none] 91) := ⟨_, rfl⟩
  have b0 : Below w.heap.size w W0 := by rw [hW0]; exact below_new (Below.refl _ _) _
  rw [← hW0] at p0
  have hlt := World.block_lt_of_cell? _ _ hE
  have HE := Lib.hid hE
  have H0 := Lib.hid (h.below b0)
  have P0 := Lib.hid p0
  have B0 := Lib.hid b0
  have HW0 := Lib.hid hW0
  clear hE h p0 b0 hW0
  go_enter Tryd.func31, Tryd.ntmps31
  go_upto_region 2 with (fail)
  rw [← HW0.out]
  go_wp2_with fail
  refine (reader_end B g bs s W0 H0.out).mono ?_
  rintro e w1 ⟨v, rfl, er, b1⟩
  have p1 := P0.out.below b1 P0.out.lt
  have B1 := Lib.hid (B0.out.trans (b1.mono B0.out.size))
  have hB0 := B0.out.size
  cases hend : rEnd bs s with
  | none =>
    rw [hend] at er
    have er0 : v = .nilIface := er
    subst er0
    go_wp2_with fail
    refine (as_nil _ w1).mono ?_
    rintro e2 _ ⟨rfl, rfl⟩
    go_wp2
    go_ret
    exact ⟨_, rfl, by rw [hend]; rfl, B1.out⟩
  | some x =>
    rw [hend] at er
    obtain ⟨hh, rfl, hhB, hkb⟩ := er
    have hg1 := (B1.out.cell (p := ⟨0, 0, none⟩) hlt).trans HE.out
    have AS := Lib.hid (errors_as_hit hh w.heap.size (.pointer none) w1 hg1 p1)
    have HK := Lib.hid hkb
    have P1 := Lib.hid p1
    have HEND := Lib.hid hend
    clear hkb p1 hg1 hend
    go_wp2_with fail
    refine AS.out.mono ?_
    rintro e2 w2 ⟨rfl, p2, g2⟩
    have c2 := p2.cell 0
    rw [show (#[Value.pointer (some ⟨hh, 0, none⟩)] : Array Value)[0]? = some (.pointer (some ⟨hh, 0, none⟩)) from rfl] at c2
    have k2 := HK.out.grown g2 (by
      intro e
      injection e with e
      subst e
      exact HK.out.ne_ P1.out (by decide) rfl)
    have B2 := Lib.hid (adv B1.out g2 (Nat.le_refl _) P1.out.lt)
    have K2 := Lib.hid k2
    clear p2 g2 k2
    go_wp2
    go_ret
    exact ⟨_, rfl, by rw [HEND.out]; exact ⟨hh, rfl, Nat.le_trans hB0 hhB, K2.out⟩, B2.out⟩

end Go.Proofs.YtbkdccamimakoaaDoor
