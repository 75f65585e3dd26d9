/-
  (*deponentref1.Table).Mac: a text's tag by a key of at most 64 bytes.
-/
import Derived.Test.YtamhggndcegndaaDoorRSum
import Derived.Test.YtamhggndcegndaaDoorMac
namespace Go.Proofs.YtamhggndcegndaaDoor
open Go.RowKit
set_option linter.unusedVariables false
set_option maxRecDepth 100000

theorem OwnB.grownNe {w w' : World} {base : Nat} {v : Value} {bs : List Nat} {r : Option Nat} (h : OwnB w base v bs) (hg : w.grownBy w' r) (hne : ∀ b, v.ownBlock = some b → r ≠ some b) : OwnB w' base v bs := by
  refine ⟨h.1, ?_⟩
  rcases h.2 with h | ⟨g, cap, cur, hv, hb, hh, rest⟩
  · exact .inl h
  · refine .inr ⟨g, cap, cur, hv, hb, ?_, rest⟩
    subst hv
    exact (hg.block g (by
      rcases Nat.lt_or_ge g w.heap.size with hlt | hge
      · exact hlt
      · rw [Array.getElem?_eq_none hge] at hh; cases hh) (fun e => hne g rfl e.symm)).trans hh

theorem OwnB.blk_lt {w : World} {base : Nat} {v : Value} {bs : List Nat} (h : OwnB w base v bs) {b : Nat} (e : v.ownBlock = some b) : b < w.heap.size := by
  rcases h.2 with ⟨rfl, _⟩ | ⟨g, cap, cur, rfl, hb, hh, rest⟩
  · cases e
  · injection e with e
    subst e
    rcases Nat.lt_or_ge g w.heap.size with hlt | hge
    · exact hlt
    · rw [Array.getElem?_eq_none hge] at hh; cases hh

/-- Two own slices lie apart. -/
def Apart (v v' : Value) : Prop := ∀ b, v.ownBlock = some b → v'.ownBlock ≠ some b
theorem apart_left {w : World} {base n : Nat} {vi vo vi' : Value} {bs : List Nat} (h : Apart vi vo) (ho : OwnB w base vo bs) (he : vi'.ownBlock = vi.ownBlock ∨ vi'.ownBlock = some n) (hn : w.heap.size ≤ n) : Apart vi' vo := by
  intro b hb e
  rcases he with he | he
  · exact h b (he ▸ hb) e
  · rw [he] at hb
    injection hb with hb
    have := ho.blk_lt e
    omega
theorem apart_right {w : World} {base n : Nat} {vi vo vo' : Value} {bs : List Nat} (h : Apart vi vo) (ho : OwnB w base vi bs) (he : vo'.ownBlock = vo.ownBlock ∨ vo'.ownBlock = some n) (hn : w.heap.size ≤ n) : Apart vi vo' := by
  intro b hb e
  rcases he with he | he
  · exact h b hb (he ▸ e)
  · rw [he] at e
    injection e with e
    have := ho.blk_lt hb
    omega

/-- append onto bytes of the call's own; where they lie then. -/
theorem append_bytes_at {w : World} {ops : Array Oper} {rest : List Oper} {o : Oper} {a : Act} {Q : Exit → Act → World → Prop} (hgd : o.guard = none) (s x : Operand)
    (ho : o.op = .call { callee := .builtin .append, args := #[s, x], argTypes := #[57, 57] })
    (base : Nat) (v : Value) (bs : List Nat) (hs : a.eval s = v) (hown : OwnB w base v bs) (A : Option Addr) (m c : Nat) (news : List Nat) (hx : a.eval x = .slice A m c) (hr : Reads w w.heap.size 1 A m (byv news))
    (hlen : bs.length + m ≤ 8589934592) (hbase : base ≤ w.heap.size)
    (h : ∀ v' w', OwnB w' base v' (bs ++ news) → Below base w w' → w.grownBy w' v.ownBlock → (v'.ownBlock = v.ownBlock ∨ v'.ownBlock = some w.heap.size) → wpList Tryd.prog ops Q rest (a.put o.dst v') w') : wpList Tryd.prog ops Q (o :: rest) a w := by
  obtain ⟨i0, hi0, hz0, hz1, hz2⟩ := info_parts Tryd.u8_info
  have hm := reads_bytes_le hr
  refine wpList_append_any (P := Tryd.prog) w hgd s x _ ho base 5 i0 _ 1 1 Tryd.underlying57 hi0 hz0 hz1 hz2 rfl (by omega) v bs.length (byv bs) hs hown w.heap.size A m c (byv news) hx hr (byv_one _) (by simp only [maxLen]; omega) (by omega) hbase ?_
  intro v' w' h1 h2 h3
  refine h v' w' ?_ ?_ h2 h3
  · unfold OwnB
    rw [byv_append, List.length_append, hm]
    exact h1
  · exact below_appended (Below.refl _ _) hown h2 (Nat.le_refl _) hbase

theorem map_take_step {K : List Nat} {k x : Nat} (f : Nat → Nat) (h : K[k]? = some x) : (K.take (k + 1)).map f = (K.take k).map f ++ [f x] := by
  rw [List.take_add_one, h]
  simp

-- END BY HAND
set_option maxHeartbeats 4000000 in
theorem ref1_mac (g nk ck n cc : Nat) (Ak A : Option Addr) (key b : List Nat) (w : World) (hT : RTab w g) (hk : Reads w w.heap.size 1 Ak nk (byv key)) (hb : Reads w w.heap.size 1 A n (byv b)) (hk2 : ∀ x ∈ key, x < 256) (hb2 : ∀ x ∈ b, x < 256)
    (hnk : nk ≤ 64) (hn : n ≤ 65536) :
    Calls Tryd.prog 44 #[.pointer (some ⟨g, 0, none⟩), .slice Ak nk ck, .slice A n cc] w fun e w' => e = .returned (.agg (byv (mac key b)).toArray) ∧ Below w.heap.size w w' := by
  have lk := reads_bytes_le hk
  have lb := reads_bytes_le hb
  obtain ⟨W0, hW0⟩ : ∃ x, x = w.alloc (.cells #[.int .u8 0, .int .u8 0, .int .u8 0, .int .u8 0, .int .u8 0, .int .u8 0, .int .u8 0, .int .u8 0, .int .u8 0, .int .u8 0, .int .u8 0, .int .u8 0, .int .u8 0, .int .u8 0, .int .u8 0, .int .u8 0, .int .u8 0, .int .u8 0, .int .u8 0, .int .u8 0, .int .u8 0, .int .u8 0, .int .u8 0, .int .u8 0, .int .u8 0, .int .u8 0, .int .u8 0, .int .u8 0, .int .u8 0, .int .u8 0, .int .u8 0, .int .u8 0] 28) := ⟨_, rfl⟩
  obtain ⟨G, hG⟩ : ∃ x, w.heap.size = x := ⟨_, rfl⟩
  have z0 : Blk W0 G 28 #[.int .u8 0, .int .u8 0, .int .u8 0, .int .u8 0, .int .u8 0, .int .u8 0, .int .u8 0, .int .u8 0, .int .u8 0, .int .u8 0, .int .u8 0, .int .u8 0, .int .u8 0, .int .u8 0, .int .u8 0, .int .u8 0, .int .u8 0, .int .u8 0, .int .u8 0, .int .u8 0, .int .u8 0, .int .u8 0, .int .u8 0, .int .u8 0, .int .u8 0, .int .u8 0, .int .u8 0, .int .u8 0, .int .u8 0, .int .u8 0, .int .u8 0, .int .u8 0] := by rw [hW0, ← hG]; exact Blk.new w _ _
  have b0 : Below w.heap.size w W0 := by rw [hW0]; exact below_new (Below.refl _ _) _
  have t0 : RTab W0 g := Blk.below hT b0 (Blk.lt hT)
  have hk0 := (hk.call b0).laid (.cells #[] 5)
  have hbr0 : Reads W0 W0.heap.size 1 A n (byv b) := hb.call b0
  have gsz : G < W0.heap.size := z0.lt
  have glt : g < W0.heap.size := Blk.lt t0
  have HG := Lib.hid hG
  have HZ0 := Lib.hid z0
  have HB0 := Lib.hid b0
  have HT0 := Lib.hid t0
  have HBR := Lib.hid hbr0
  have HLK := Lib.hid lk
  have HLB := Lib.hid lb
  have HK2 := Lib.hid hk2
  have HB2 := Lib.hid hb2
  clear hT hk hb lk lb hk2 hb2 b0 t0 z0 hbr0 hG
  go_enter Tryd.func44, Tryd.ntmps44
  go_upto_region 1 with (fail)
  rw [← hW0, show w.heap.size = G from HG.out]
  clear hW0
  go_wp2_with (at_builtin; refine append_bytes rfl (.tmp 13) (.tmp 14) rfl W0.heap.size _ [] rfl (OwnB.made W0 [] (by simp [maxLen])) Ak nk ck key rfl hk0 (by simp; omega) (by simp) ?_)
  intro v1 w1 hown1 hb1 hg1
  have B1 : Below W0.heap.size W0 w1 := ((Below.refl _ _).alloc (Nat.le_refl _) _).trans hb1
  obtain ⟨A1, n1, c1, rfl, hnc1, hcm1, hrd1⟩ := hown1.sl
  have hn1 : n1 = nk := by have := reads_bytes_le hrd1; have := HLK.out; omega
  subst hn1
  have q64 : ¬ (n1 : Int) > 64 := by omega
  have q64' : (n1 : Int) ≤ 64 := by omega
  have HO1 := Lib.hid hown1
  have HB1 := Lib.hid B1
  clear hb1 hg1 hown1 B1 hrd1 hk0
  go_wp2_with fail
  go_loopw [7] (fun v wr => ∃ z, n1 + z ≤ 64 ∧ Hid (OwnB wr W0.heap.size v (key ++ List.replicate z 0)) ∧ Hid (Below W0.heap.size W0 wr)) (fun v _ => 64 - slen v)
  case atStart => exact ⟨0, by omega, Lib.hid (by simpa using HO1.out), HB1.out⟩
  case round =>
    clear HO1 HB1
    obtain ⟨z, hz, hown, hbe⟩ := hrel
    obtain ⟨A2, n2, c2, rfl, hnc, hcm, hrd⟩ := hown.out.sl
    have hn2 : n2 = n1 + z := by
      have := reads_bytes_le hrd
      have e := HLK.out
      simp only [List.length_append, List.length_replicate] at this
      omega
    have HN2 := Lib.hid hn2
    by_cases hzZ : n1 + z < 64
    · have q3 : (n2 : Int) < 64 := by omega
      clear hn2 hrd
      have hbs := hbe.out.size
      have l2 : (key ++ List.replicate z 0).length + 1 ≤ 8589934592 := by have := HLK.out; simp; omega
      go_wp2_with (at_builtin; refine append_bytes rfl (.tmp 28) (.tmp 29) rfl W0.heap.size _ _ rfl (hown.out.alloc _) _ 1 1 [0] rfl (by simpa using reads_one wr 0) l2 (by simp; omega) ?_)
      intro v3 w3 hown3 hb3 hg3
      have HO3 : Hid (OwnB w3 W0.heap.size v3 (key ++ List.replicate (z + 1) 0)) := Lib.hid (by
        have e : (key ++ List.replicate z 0) ++ [0] = key ++ List.replicate (z + 1) 0 := by rw [List.replicate_succ']; simp
        rw [← e]; simpa using hown3)
      have HB3 := Lib.hid ((hbe.out.alloc hbs (.cells #[.int .u8 0] 5)).trans hb3)
      have hv3 : slen v3 = n1 + (z + 1) := by
        obtain ⟨A3, n3, c3, rfl, -, -, rd3⟩ := HO3.out.sl
        have := reads_bytes_le rd3
        have e := HLK.out
        simp only [List.length_append, List.length_replicate] at this
        simp only [slen]
        omega
      have HV3 := Lib.hid hv3
      clear hown3 hb3 hg3 hv3 l2 hbs
      go_wp2_with fail
      go_roundw
      case rel => exact ⟨z + 1, by omega, HO3, HB3⟩
      case measure => rw [HV3.out, show n2 = n1 + z from HN2.out]; simp only [slen]; omega
    · have q3 : ¬ (n2 : Int) < 64 := by omega
      obtain ⟨K, hKK⟩ : ∃ K, key ++ List.replicate z 0 = K := ⟨_, rfl⟩
      have hz' : z = 64 - key.length := by have := HLK.out; omega
      have hKl : K.length = 64 := by rw [← hKK]; have := HLK.out; simp; omega
      have hKb : ∀ x ∈ K, x < 256 := by
        intro x hx
        rw [← hKK] at hx
        rcases List.mem_append.1 hx with h | h
        · exact HK2.out x h
        · rw [(List.mem_replicate.1 h).2]; decide
      have hp1 : K.map (fun x => x ^^^ 54) = keyPad key 54 := by unfold keyPad; rw [← hKK, hz']
      have hp2 : K.map (fun x => x ^^^ 92) = keyPad key 92 := by unfold keyPad; rw [← hKK, hz']
      rw [hKK] at hrd
      have hn64 : n2 = 64 := by have := reads_bytes_le hrd; omega
      obtain ⟨W1, rfl⟩ : ∃ x, x = wr := ⟨_, rfl⟩
      obtain ⟨gk, ok, rfl, hgk, hck⟩ := hrd.mid (by omega) (by omega)
      have HCK := Lib.hid hck
      have HP1 := Lib.hid hp1
      have HP2 := Lib.hid hp2
      have HKL := Lib.hid hKl
      have HKB := Lib.hid hKb
      subst hn64
      have hw01 := hbe.out.size
      clear hn2 hrd hKK hz' hKl hKb hp1 hp2 hck HN2 hown
      go_wp2_with fail
      go_loopw [9, 10, 11] (fun vi vo i wr => ∃ k : Nat, k ≤ 64 ∧ i = .int .i64 k ∧ Hid (OwnB wr W1.heap.size vi ((K.take k).map (fun x => x ^^^ 54))) ∧ Hid (OwnB wr W1.heap.size vo ((K.take k).map (fun x => x ^^^ 92))) ∧ Hid (Apart vi vo) ∧ Hid (Below W1.heap.size W1 wr)) (fun _ _ i _ => 64 - (intOf i).toNat)
      case atStart => exact ⟨0, by omega, rfl, Lib.hid (OwnB.nil _ _), Lib.hid (OwnB.nil _ _), Lib.hid (fun b h => nomatch h), Lib.hid (Below.refl _ _)⟩
      case round =>
        obtain ⟨k, hk, rfl, hvi, hvo, hne, hbw⟩ := hrel
        by_cases hk64 : k < 64
        · have qk : (k : Int) < 64 := by omega
          obtain ⟨x, hx⟩ : ∃ x, K[k]? = some x := ⟨_, List.getElem?_eq_getElem (by rw [HKL.out]; exact hk64)⟩
          have lx := HKB.out x (List.mem_of_getElem? hx)
          have ck1 : W1.cell? ⟨gk, ok + k, none⟩ = some (.int .u8 (x : Int)) := HCK.out k _ (by simp [byv, hx])
          have ck := (hbw.out.cell (p := ⟨gk, ok + k, none⟩) hgk).trans ck1
          obtain ⟨y1, hy1, oy1⟩ : ∃ y : Nat, x ^^^ 54 = y ∧ bits .xor .u8 (x : Int) 54 = y := ⟨_, rfl, u8_xor_nat x 54 lx (by decide)⟩
          obtain ⟨y2, hy2, oy2⟩ : ∃ y : Nat, x ^^^ 92 = y ∧ bits .xor .u8 (x : Int) 92 = y := ⟨_, rfl, u8_xor_nat x 92 lx (by decide)⟩
          have hm1 := map_take_step (fun x => x ^^^ 54) hx
          have hm2 := map_take_step (fun x => x ^^^ 92) hx
          rw [hy1] at hm1
          rw [hy2] at hm2
          have HM1 := Lib.hid hm1
          have HM2 := Lib.hid hm2
          have hbs := hbw.out.size
          have la : ((K.take k).map (fun x => x ^^^ 54)).length + 1 ≤ 8589934592 := by rw [List.length_map, List.length_take]; omega
          have lb : ((K.take k).map (fun x => x ^^^ 92)).length + 1 ≤ 8589934592 := by rw [List.length_map, List.length_take]; omega
          have HCK1 := Lib.hid ck1
          clear hx hy1 hy2 hm1 hm2 ck1
          go_wp2_with (at_builtin; refine append_bytes_at rfl (.tmp 35) (.tmp 41) rfl W1.heap.size _ _ rfl (hvi.out.alloc _) _ 1 1 [y1] rfl (by simpa using reads_one wr y1) la (by simp; omega) ?_)
          intro v3 w3 hown3 hb3 hg3 he3
          have hB3 := (hbw.out.alloc hbs (.cells #[.int .u8 (y1 : Int)] 5)).trans hb3
          have HVO3 := Lib.hid ((hvo.out.alloc (.cells #[.int .u8 (y1 : Int)] 5)).grownNe hg3 (fun b h e => hne.out b e h))
          have HNE3 := Lib.hid (apart_left hne.out hvo.out he3 (by simp))
          have hb3s := hB3.size
          have ck := (hB3.cell (p := ⟨gk, ok + k, none⟩) hgk).trans HCK1.out
          have HVI3 : Hid (OwnB w3 W1.heap.size v3 ((K.take (k + 1)).map (fun x => x ^^^ 54))) := Lib.hid (by rw [HM1.out, List.map_take]; exact hown3)
          have HB3 := Lib.hid hB3
          clear hown3 hb3 hg3 he3 hB3 hvi hvo hne hbw
          go_wp2_with (at_builtin; refine append_bytes_at rfl (.tmp 43) (.tmp 49) rfl W1.heap.size _ _ rfl (HVO3.out.alloc _) _ 1 1 [y2] rfl (by simpa using reads_one w3 y2) lb (by simp; omega) ?_)
          intro v4 w4 hown4 hb4 hg4 he4
          have HB4 := Lib.hid ((HB3.out.alloc hb3s (.cells #[.int .u8 (y2 : Int)] 5)).trans hb4)
          have HVO4 : Hid (OwnB w4 W1.heap.size v4 ((K.take (k + 1)).map (fun x => x ^^^ 92))) := Lib.hid (by rw [HM2.out, List.map_take]; exact hown4)
          have HVI4 : Hid (OwnB w4 W1.heap.size v3 ((K.take (k + 1)).map (fun x => x ^^^ 54))) := Lib.hid ((HVI3.out.alloc (.cells #[.int .u8 (y2 : Int)] 5)).grownNe hg4 (fun b h e => HNE3.out b h e))
          have HNE4 := Lib.hid (apart_right HNE3.out HVI3.out he4 (by simp))
          clear hown4 hb4 hg4 he4 HB3 HVO3 HNE3 HVI3
          go_wp2_with fail
          go_roundw
          case rel => exact ⟨k + 1, by omega, by go_num, HVI4, HVO4, HNE4, HB4⟩
          case measure => simp [intOf]; omega
        · have qk : ¬ (k : Int) < 64 := by omega
          obtain rfl : k = 64 := by omega
          have hvi' := hvi.out
          have hvo' := hvo.out
          rw [List.take_of_length_le (by rw [HKL.out]; exact Nat.le_refl _), HP1.out] at hvi'
          rw [List.take_of_length_le (by rw [HKL.out]; exact Nat.le_refl _), HP2.out] at hvo'
          obtain ⟨P1, hP1⟩ : ∃ P, keyPad key 54 = P := ⟨_, rfl⟩
          obtain ⟨P2, hP2⟩ : ∃ P, keyPad key 92 = P := ⟨_, rfl⟩
          have lP1 : P1.length = 64 := by rw [← hP1]; exact keyPad_length key (by have := HLK.out; omega) 54
          have lP2 : P2.length = 64 := by rw [← hP2]; exact keyPad_length key (by have := HLK.out; omega) 92
          have bP1 : ∀ x ∈ P1, x < 256 := by rw [← hP1]; exact keyPad_lt key HK2.out 54 (by decide)
          have bP2 : ∀ x ∈ P2, x < 256 := by rw [← hP2]; exact keyPad_lt key HK2.out 92 (by decide)
          rw [hP1] at hvi'
          rw [hP2] at hvo'
          obtain ⟨W2, rfl⟩ : ∃ x, x = wr := ⟨_, rfl⟩
          have b02 : Below W0.heap.size W0 W2 := hbe.out.trans (hbw.out.mono hw01)
          have rb2 := HBR.out.call b02
          have hw12 := hbw.out.size
          have HVI := Lib.hid hvi'
          have HVO := Lib.hid hvo'
          have HP1' := Lib.hid hP1
          have HP2' := Lib.hid hP2
          have HLP1 := Lib.hid lP1
          have HLP2 := Lib.hid lP2
          have HBP1 := Lib.hid bP1
          have HBP2 := Lib.hid bP2
          have HB02 := Lib.hid b02
          have l5 : P1.length + n ≤ 8589934592 := by rw [lP1]; omega
          clear hvi' hvo' hP1 hP2 lP1 lP2 bP1 bP2 b02 hvi hvo hbw hbe
          go_wp2_with (at_builtin; refine append_bytes_at rfl (.tmp 52) (.tmp 53) rfl W1.heap.size _ _ rfl HVI.out A n cc b rfl rb2 l5 hw12 ?_)
          intro v5 w5 hown5 hb5 hg5 he5
          have B5 := HB02.out.trans (hb5.mono hw01)
          have vo5 := HVO.out.grownNe hg5 (fun b h e => hne.out b e h)
          obtain ⟨A5, n5, c5, rfl, hnc5, hcm5, hrd5⟩ := hown5.sl
          have hn5 : n5 = 64 + n := by have := reads_bytes_le hrd5; rw [List.length_append, HLP1.out] at this; have := HLB.out; omega
          have T5 : RTab w5 g := (show RTab W0 g from HT0.out).below B5 glt
          have K5 := ref1_sum g n5 c5 A5 (P1 ++ b) w5 (by intro x hx; rcases List.mem_append.1 hx with h | h; exact HBP1.out x h; exact HB2.out x h) T5 hrd5 (by omega)
          obtain ⟨D, hD⟩ : ∃ D, sha (P1 ++ b) = D := ⟨_, rfl⟩
          rw [hD] at K5
          have lD : D.length = 32 := by rw [← hD]; exact sha_length _
          have bD : ∀ x ∈ D, x < 256 := by rw [← hD]; exact sha_lt _
          obtain ⟨V, hV⟩ : ∃ V, byv D = V := ⟨_, rfl⟩
          rw [hV] at K5
          have lV : V.length = 32 := by rw [← hV, byv_length]; exact lD
          have oV : ∀ u ∈ V, u.oneCell' = true := by rw [← hV]; exact byv_one D
          have HK5 := Lib.hid K5
          have HVO5 := Lib.hid vo5
          have HB5 := Lib.hid B5
          have HD := Lib.hid hD
          have HlD := Lib.hid lD
          have HbD := Lib.hid bD
          have HV := Lib.hid hV
          have HlV := Lib.hid lV
          have HoV := Lib.hid oV
          have HI := Lib.hid (show (Tryd.prog.info? 28).map (·.size) = some V.length by rw [lV]; exact Tryd.dig_info)
          have hw15 : W1.heap.size ≤ w5.heap.size := Nat.le_trans hw12 hb5.size
          clear K5 vo5 B5 hown5 hb5 hg5 he5 hrd5 T5 hD lD bD hV lV oV hne rb2 hn5
          go_wp2_with fail
          refine HK5.out.mono ?_
          rintro e w6 ⟨rfl, b6⟩
          have hb56 := b6.size
          have HVO6 := Lib.hid (HVO5.out.kept b6)
          have HB6 := Lib.hid (HB5.out.trans (b6.mono (Nat.le_trans hw01 hw15)))
          have Hz6 := Lib.hid (Blk.new w6 28 #[.int .u8 0, .int .u8 0, .int .u8 0, .int .u8 0, .int .u8 0, .int .u8 0, .int .u8 0, .int .u8 0, .int .u8 0, .int .u8 0, .int .u8 0, .int .u8 0, .int .u8 0, .int .u8 0, .int .u8 0, .int .u8 0, .int .u8 0, .int .u8 0, .int .u8 0, .int .u8 0, .int .u8 0, .int .u8 0, .int .u8 0, .int .u8 0, .int .u8 0, .int .u8 0, .int .u8 0, .int .u8 0, .int .u8 0, .int .u8 0, .int .u8 0, .int .u8 0])
          clear b6
          go_upto_region 14 with (refine wpList_store_row rfl 28 (.tmp 12) (.tmp 55) rfl w6.heap.size V.toArray rfl rfl 28 _ Hz6.out (by simpa using HI.out) (by simp [HlV.out]) (by simpa using HoV.out) ?_)
          obtain ⟨w7, hw7⟩ : ∃ x, x = (w6.alloc (.cells #[.int .u8 0, .int .u8 0, .int .u8 0, .int .u8 0, .int .u8 0, .int .u8 0, .int .u8 0, .int .u8 0, .int .u8 0, .int .u8 0, .int .u8 0, .int .u8 0, .int .u8 0, .int .u8 0, .int .u8 0, .int .u8 0, .int .u8 0, .int .u8 0, .int .u8 0, .int .u8 0, .int .u8 0, .int .u8 0, .int .u8 0, .int .u8 0, .int .u8 0, .int .u8 0, .int .u8 0, .int .u8 0, .int .u8 0, .int .u8 0, .int .u8 0, .int .u8 0] 28)).setRow w6.heap.size V.toArray := ⟨_, rfl⟩
          rw [← hw7]
          have d7 : Blk w7 w6.heap.size 28 V.toArray := by rw [hw7]; exact Hz6.out.setRow _
          have b67 : Below w6.heap.size w6 w7 := by rw [hw7]; exact below_setRow ((Below.refl _ _).alloc (Nat.le_refl _) _) (Nat.le_refl _) _
          have hb67 := b67.size
          have vo7 := HVO6.out.kept b67
          have B7 := HB6.out.trans (b67.mono (Nat.le_trans (Nat.le_trans hw01 hw15) hb56))
          rw [← HV.out] at d7
          have rd := reads_blk d7 (p := 0) (by omega)
          rw [HlD.out, List.drop_zero] at rd
          have l8 : P2.length + 32 ≤ 8589934592 := by rw [HLP2.out]; omega
          have hw17 : W1.heap.size ≤ w7.heap.size := Nat.le_trans (Nat.le_trans hw15 hb56) hb67
          have HB7 := Lib.hid B7
          clear d7 b67 B7 hw7
          go_wp2_with (at_builtin; refine append_bytes_at rfl (.tmp 57) (.tmp 58) rfl W1.heap.size _ _ rfl vo7 _ 32 32 D rfl rd l8 hw17 ?_)
          intro v8 w8 hown8 hb8 hg8 he8
          have B8 := HB7.out.trans (hb8.mono hw01)
          obtain ⟨A8, n8, c8, rfl, hnc8, hcm8, hrd8⟩ := hown8.sl
          have hn8 : n8 = 96 := by have := reads_bytes_le hrd8; rw [List.length_append, HLP2.out, HlD.out] at this; omega
          have T8 : RTab w8 g := (show RTab W0 g from HT0.out).below B8 glt
          have K8 := ref1_sum g n8 c8 A8 (P2 ++ D) w8 (by intro x hx; rcases List.mem_append.1 hx with h | h; exact HBP2.out x h; exact HbD.out x h) T8 hrd8 (by omega)
          have hm : sha (P2 ++ D) = mac key b := by unfold mac; rw [← HD.out, ← HP1'.out, ← HP2'.out]
          rw [hm] at K8
          have lM : (byv (mac key b)).length = 32 := by rw [byv_length]; exact sha_length _
          have oM := byv_one (mac key b)
          obtain ⟨M, hM⟩ : ∃ M, byv (mac key b) = M := ⟨_, rfl⟩
          rw [hM] at K8 lM oM
          have HM := Lib.hid hM
          have z8 := HZ0.out.below B8 gsz
          have HK8 := Lib.hid K8
          have HB8 := Lib.hid B8
          have HZ8 := Lib.hid z8
          have HlM := Lib.hid lM
          have HoM := Lib.hid oM
          have HIM := Lib.hid (show (Tryd.prog.info? 28).map (·.size) = some M.length by rw [lM]; exact Tryd.dig_info)
          have gw8 : G < w8.heap.size := z8.lt
          clear K8 B8 z8 lM oM hM hm T8 hrd8 hown8 hb8 hg8 he8 vo7 rd hn8
          go_wp2_with fail
          refine HK8.out.mono ?_
          rintro e w9 ⟨rfl, b9⟩
          have z9 := HZ8.out.below b9 gw8
          have B9 : Below w.heap.size w w9 := (HB0.out.trans (HB8.out.mono (by have := HG.out; omega))).trans (b9.mono (by have := HG.out; omega))
          go_wp2_with (refine wpList_store_row rfl 28 (.tmp 6) (.tmp 60) rfl G M.toArray rfl rfl 28 _ z9 (by simpa using HIM.out) (by simp [HlM.out]) (by simpa using HoM.out) ?_)
          have z10 := z9.setRow M.toArray
          have HRZ := rangeAt_blk z10 0 M (fun j u h => by simpa using h)
          exact bodyPost_ret (v := .agg M.toArray) (results_cell rfl rfl (run_loadVar_mid _ _ 0 _ M _ HRZ Tryd.underlying28 rfl HIM.out)) rfl ⟨by rw [HM.out], below_setRow B9 (by rw [HG.out]; exact Nat.le_refl _) _⟩

end Go.Proofs.YtamhggndcegndaaDoor
