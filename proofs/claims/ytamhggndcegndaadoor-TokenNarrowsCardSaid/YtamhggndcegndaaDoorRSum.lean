/-
  (*deponentref1.Table).Sum: a text's hash.
-/
import Derived.Test.YtamhggndcegndaaDoorRSumP
import Derived.Test.YtamhggndcegndaaDoorSeq2
import Derived.Test.YtamhggndcegndaaDoorOwn
namespace Go.Proofs.YtamhggndcegndaaDoor
open Go.RowKit
set_option linter.unusedVariables false
set_option maxRecDepth 100000

def slen : Value → Nat | .slice _ n _ => n | _ => 0

theorem be_step (N j m : Nat) (h : 8 = j + (m + 1)) : (be N 8).take (j + 1) = (be N 8).take j ++ [N / 2 ^ (8 * m) % 256] := by
  rw [be_take N 8 j (by omega), show 8 - 1 - j = m by omega]
  rw [show byteAt N m = N / 2 ^ (8 * m) % 256 from by unfold byteAt; rw [Nat.pow_mul]]

-- END BY HAND
set_option maxHeartbeats 4000000 in
theorem ref1_sum (g n cc : Nat) (A : Option Addr) (bs : List Nat) (w : World) (hb2 : ∀ b ∈ bs, b < 256) (hT : RTab w g) (hr : Reads w w.heap.size 1 A n (byv bs)) (hn : n ≤ 4294967296) :
    Calls Tryd.prog 67 #[.pointer (some ⟨g, 0, none⟩), .slice A n cc] w fun e w' => e = .returned (.agg (byv (sha bs)).toArray) ∧ Below w.heap.size w w' := by
  have hlen : bs.length = n := reads_bytes_le hr
  obtain ⟨N, hN⟩ : ∃ N, n * 8 = N := ⟨_, rfl⟩
  have d1 : IntKind.u64.wrap (n : Int) = n := IntWalk.u64_in _ (by omega)
  have d2 : IntKind.u64.wrap ((n : Int) * 8) = (N : Int) := by rw [show ((n : Int) * 8) = (N : Int) by omega]; exact IntWalk.u64_in _ (by omega)
  have hN2 : N < 18446744073709551616 := by omega
  obtain ⟨Z, hZ⟩ : ∃ Z, padZ n = Z := ⟨_, rfl⟩
  have hZ64 : Z ≤ 128 := by rw [← hZ]; have := tailEnd_bd (n % 64) (Nat.mod_lt _ (by decide)); unfold padZ; omega
  obtain ⟨W0, hW0⟩ : ∃ x, x = w.alloc (.cells #[.int .u8 0, .int .u8 0, .int .u8 0, .int .u8 0, .int .u8 0, .int .u8 0, .int .u8 0, .int .u8 0, .int .u8 0, .int .u8 0, .int .u8 0, .int .u8 0, .int .u8 0, .int .u8 0, .int .u8 0, .int .u8 0, .int .u8 0, .int .u8 0, .int .u8 0, .int .u8 0, .int .u8 0, .int .u8 0, .int .u8 0, .int .u8 0, .int .u8 0, .int .u8 0, .int .u8 0, .int .u8 0, .int .u8 0, .int .u8 0, .int .u8 0, .int .u8 0] 28) := ⟨_, rfl⟩
  obtain ⟨G, hG⟩ : ∃ x, w.heap.size = x := ⟨_, rfl⟩
  have z0 : Blk W0 G 28 #[.int .u8 0, .int .u8 0, .int .u8 0, .int .u8 0, .int .u8 0, .int .u8 0, .int .u8 0, .int .u8 0, .int .u8 0, .int .u8 0, .int .u8 0, .int .u8 0, .int .u8 0, .int .u8 0, .int .u8 0, .int .u8 0, .int .u8 0, .int .u8 0, .int .u8 0, .int .u8 0, .int .u8 0, .int .u8 0, .int .u8 0, .int .u8 0, .int .u8 0, .int .u8 0, .int .u8 0, .int .u8 0, .int .u8 0, .int .u8 0, .int .u8 0, .int .u8 0] := by rw [hW0, ← hG]; exact Blk.new w _ _
  have b0 : Below w.heap.size w W0 := by rw [hW0]; exact below_new (Below.refl _ _) _
  have t0 : RTab W0 g := Blk.below hT b0 (Blk.lt hT)
  have r0 : Reads W0 W0.heap.size 1 A n (byv bs) := hr.call b0
  have hr0 := r0.laid (.cells #[] 5)
  have glt : g < G := by rw [← hG]; exact Blk.lt hT
  have gsz : G < W0.heap.size := z0.lt
  have HG := Lib.hid hG
  have HZ0 := Lib.hid z0
  have HB0 := Lib.hid b0
  have HT0 := Lib.hid t0
  have HNN := Lib.hid hN
  have HZZ := Lib.hid hZ
  have HLEN := Lib.hid hlen
  have HB2 := Lib.hid hb2
  clear hT hr hlen hN hZ b0 t0 z0 r0 hG hb2
  go_enter Tryd.func67, Tryd.ntmps67
  go_upto_region 1 with (fail)
  rw [← hW0, show w.heap.size = G from HG.out]
  clear hW0
  go_wp2_with (at_builtin; refine append_bytes rfl (.tmp 12) (.tmp 13) rfl W0.heap.size _ [] rfl (OwnB.made W0 [] (by simp [maxLen])) A n cc bs rfl hr0 (by simp; omega) (by simp) ?_)
  intro v1 w1 hown1 hb1 hg1
  have B1 : Below W0.heap.size W0 w1 := ((Below.refl _ _).alloc (Nat.le_refl _) _).trans hb1
  have hs1 := B1.size
  have l1 : ([] ++ bs).length + 1 ≤ 8589934592 := by have := HLEN.out; simp; omega
  go_wp2_with (at_builtin; refine append_bytes rfl (.tmp 14) (.tmp 15) rfl W0.heap.size _ _ rfl (hown1.alloc _) _ 1 1 [128] rfl (by simpa using reads_one w1 128) l1 (by simp; omega) ?_)
  intro v2 w2 hown2 hb2 hg2
  have HB2' := Lib.hid ((B1.alloc hs1 (.cells #[.int .u8 128] 5)).trans hb2)
  have HO2 := Lib.hid hown2
  clear hown1 hb1 hg1 B1 hs1 l1 hown2 hb2 hg2 hr0
  go_wp2_with fail
  go_loopw [5] (fun v wr => ∃ z, z ≤ Z ∧ Hid (OwnB wr W0.heap.size v (bs ++ 128 :: List.replicate z 0)) ∧ Hid (Below W0.heap.size W0 wr)) (fun v _ => n + 1 + Z - slen v)
  case atStart => exact ⟨0, by omega, Lib.hid (by simpa using HO2.out), HB2'.out⟩
  case round =>
    clear HO2 HB2'
    obtain ⟨z, hz, hown, hbe⟩ := hrel
    obtain ⟨A1, n1, c1, rfl, hnc, hcm, hrd⟩ := hown.out.sl
    have hn1 : n1 = n + 1 + z := by
      have := reads_bytes_le hrd
      have e := HLEN.out
      simp only [List.length_append, List.length_cons, List.length_replicate] at this
      omega
    obtain ⟨q, hq⟩ : ∃ q, n1 % 64 = q := ⟨_, rfl⟩
    have q1 : Int.tmod (n1 : Int) 64 = (q : Int) := by rw [Int.tmod_eq_emod_of_nonneg (by omega)]; omega
    have q2 : IntKind.i64.wrap (q : Int) = q := IntWalk.i64_in _ (by omega)
    have HQ := Lib.hid hq
    have HN1 := Lib.hid hn1
    by_cases hzZ : z < Z
    · have q3 : ¬ (q : Int) = 56 := by
        have := padZ_first n z (by rw [HZZ.out]; exact hzZ)
        omega
      clear hq hn1 hrd
      have hbs := hbe.out.size
      have l2 : (bs ++ 128 :: List.replicate z 0).length + 1 ≤ 8589934592 := by have := HLEN.out; simp; omega
      go_wp2_with (at_builtin; refine append_bytes rfl (.tmp 21) (.tmp 22) rfl W0.heap.size _ _ rfl (hown.out.alloc _) _ 1 1 [0] rfl (by simpa using reads_one wr 0) l2 (by simp; omega) ?_)
      intro v3 w3 hown3 hb3 hg3
      have HO3 : Hid (OwnB w3 W0.heap.size v3 (bs ++ 128 :: List.replicate (z + 1) 0)) := Lib.hid (by
        have e : (bs ++ 128 :: List.replicate z 0) ++ [0] = bs ++ 128 :: List.replicate (z + 1) 0 := by rw [List.replicate_succ']; simp
        rw [← e]; simpa using hown3)
      have HB3 := Lib.hid ((hbe.out.alloc hbs (.cells #[.int .u8 0] 5)).trans hb3)
      have hv3 : slen v3 = n + 1 + (z + 1) := by
        obtain ⟨A3, n3, c3, rfl, -, -, rd3⟩ := HO3.out.sl
        have := reads_bytes_le rd3
        have e := HLEN.out
        simp only [List.length_append, List.length_cons, List.length_replicate] at this
        simp only [slen]
        omega
      have HV3 := Lib.hid hv3
      clear hown3 hb3 hg3 hv3 l2 hbs
      go_wp2_with fail
      go_roundw
      case rel => exact ⟨z + 1, by omega, HO3, HB3⟩
      case measure => rw [HV3.out, show n1 = n + 1 + z from HN1.out]; simp only [slen]; omega
    · have hzz : z = Z := by omega
      have q3 : (q : Int) = 56 := by
        have := padZ_mod n
        rw [HZZ.out] at this
        omega
      subst hzz
      obtain ⟨T, hTT⟩ : ∃ T, bs ++ 128 :: List.replicate z 0 = T := ⟨_, rfl⟩
      have hTl : T.length ≤ 4294967296 + 200 := by rw [← hTT]; have := HLEN.out; simp; omega
      have hown' := hown.out
      rw [hTT] at hown'
      have HTT := Lib.hid hTT
      have HTL := Lib.hid hTl
      obtain ⟨W1, rfl⟩ : ∃ x, x = wr := ⟨_, rfl⟩
      have HO := Lib.hid hown'
      clear hq hn1 hrd hTT hTl hown' hown
      go_wp2_with fail
      go_loopw [5, 7] (fun v i wr => ∃ j m : Nat, 8 = j + m ∧ i = .int .i64 (8 * (m : Int) - 8) ∧ Hid (OwnB wr W0.heap.size v (T ++ (be N 8).take j)) ∧ Hid (Below W0.heap.size W0 wr)) (fun _ i _ => (intOf i + 8).toNat)
      case atStart => exact ⟨0, 8, by omega, rfl, Lib.hid (by simpa using HO.out), hbe.out⟩
      case round =>
        clear hbe
        obtain ⟨j, m, hjm, rfl, hown, hbe⟩ := hrel
        cases m with
        | zero =>
          obtain rfl : j = 8 := by omega
          rw [show 8 * ((0 : Nat) : Int) - 8 = -8 from by decide]
          have hO := hown.out
          rw [List.take_of_length_le (by rw [be_length]; exact Nat.le_refl _)] at hO
          have hX : T ++ be N 8 = padTxt bs := by unfold padTxt; rw [HLEN.out, HZZ.out, HTT.out, show 8 * n = N by have := HNN.out; omega]
          rw [hX] at hO
          have hXl := padTxt_length bs
          obtain ⟨X, hXX⟩ : ∃ X, padTxt bs = X := ⟨_, rfl⟩
          obtain ⟨M, hM⟩ : ∃ M, bs.length / 64 + tailEnd (bs.length % 64) / 64 = M := ⟨_, rfl⟩
          have hM2 : M ≤ 67108870 := by rw [← hM]; have := HLEN.out; have := tailEnd_bd (bs.length % 64) (Nat.mod_lt _ (by decide)); omega
          have hsh := padTxt_sha bs
          have hXlt := padTxt_lt bs HB2.out
          rw [hXX] at hO hXl hsh hXlt
          rw [hM] at hXl hsh
          obtain ⟨A2, n2, c2, rfl, hnc2, hcm2, hrd2⟩ := OwnB.sl hO
          have hn2 : n2 = 64 * M := by have := reads_bytes_le hrd2; omega
          have HN2 := Lib.hid hn2
          have HSH := Lib.hid hsh
          have HXL := Lib.hid hXl
          have HXLT := Lib.hid hXlt
          obtain ⟨wo, rfl⟩ : ∃ x, x = wr := ⟨_, rfl⟩
          have tab := (show RTab W0 g from HT0.out).below hbe.out (by omega)
          have c0 := tab_start (i := 0) tab (by omega); have c1 := tab_start (i := 1) tab (by omega); have c2' := tab_start (i := 2) tab (by omega); have c3 := tab_start (i := 3) tab (by omega); have c4 := tab_start (i := 4) tab (by omega); have c5 := tab_start (i := 5) tab (by omega); have c6 := tab_start (i := 6) tab (by omega); have c7 := tab_start (i := 7) tab (by omega)
          simp [St.vals, start0] at c0 c1 c2' c3 c4 c5 c6 c7
          have hM1 : 1 ≤ M := by rw [← hM]; have := tailEnd_bd (bs.length % 64) (Nat.mod_lt _ (by decide)); omega
          obtain ⟨gb, ob, hA2, hgb, -⟩ := hrd2.mid (by omega) (by omega)
          have HRD := Lib.hid hrd2
          subst hA2
          have HTAB := Lib.hid tab
          have hzo : Blk wo G 28 #[.int .u8 0, .int .u8 0, .int .u8 0, .int .u8 0, .int .u8 0, .int .u8 0, .int .u8 0, .int .u8 0, .int .u8 0, .int .u8 0, .int .u8 0, .int .u8 0, .int .u8 0, .int .u8 0, .int .u8 0, .int .u8 0, .int .u8 0, .int .u8 0, .int .u8 0, .int .u8 0, .int .u8 0, .int .u8 0, .int .u8 0, .int .u8 0, .int .u8 0, .int .u8 0, .int .u8 0, .int .u8 0, .int .u8 0, .int .u8 0, .int .u8 0, .int .u8 0] := HZ0.out.below hbe.out gsz
          have HZO := Lib.hid hzo
          have HBO := Lib.hid (HB0.out.trans (hbe.out.mono (by have := HG.out; omega)))
          have HBE := hbe
          have glo : g < wo.heap.size := Blk.lt tab
          have gho : G < wo.heap.size := hzo.lt
          clear hO hX hXl hsh hXlt hXX hM hn2 hrd2 tab hzo hown hbe hjm
          go_wp2_with fail
          go_loopw [9] (fun i wr => ∃ k p : Nat, k ≤ M ∧ Hid (64 * k = p) ∧ i = .int .i64 p ∧ Hid (Blk wr wo.heap.size 76 (blocks X start0 k).vals) ∧ Hid (Below wo.heap.size wo wr)) (fun i _ => n2 - (intOf i).toNat)
          case atStart => exact ⟨0, 0, by omega, rfl, rfl, Blk.new .., (Below.refl _ _).alloc (Nat.le_refl _) _⟩
          case round =>
            clear c0 c1 c2' c3 c4 c5 c6 c7
            obtain ⟨k, p, hk, hp, rfl, hst, hbw⟩ := hrel
            by_cases hkM : k < M
            · obtain ⟨s, hs⟩ : ∃ s, blocks X start0 k = s := ⟨_, rfl⟩
              have hok : s.ok := hs ▸ blocks_ok X start0 start0_ok k
              have hstv := hst.out
              rw [hs] at hstv
              have hp' := hp.out
              have hn2' := HN2.out
              have p1 : (p : Int) < n2 := by omega
              have p2 : p + 64 ≤ n2 := by omega
              have p4 : ¬ c2 = p := by omega
              have p5 : p ≤ n2 := by omega
              have p6 : (p : Int) ≤ (p : Int) + 64 := by omega
              have p7 : (p : Int) + 64 ≤ c2 := by omega
              have p10 : 0 ≤ (p : Int) + 64 := by omega
              have p11 : ((p : Int) + 64).toNat = p + 64 := by omega
              have p12 : (p : Int) + 64 - p = 64 := by omega
              have p3' : IntKind.i64.wrap ((p : Int) + 64) = (p : Int) + 64 := IntWalk.i64_in _ (by omega)
              have hrp := ((HRD.out.below hbw.out).cut (k := p) (cap := c2) p5 hnc2)
              rw [if_neg p4, Nat.mul_one, show (byv X).drop p = byv (X.drop p) by simp [byv], Option.map_some, Addr.add_mid] at hrp
              have hrq := (hrp.pre (k := 64) (by omega)).more hbw.out.size
              rw [show (byv (X.drop p)).take 64 = byv ((X.drop p).take 64) by simp [byv]] at hrq
              have htw : RTab wr g := (show RTab wo g from HTAB.out).below hbw.out glo
              obtain ⟨s', hs'⟩ : ∃ s', mixed ((X.drop p).take 64) s = s' := ⟨_, rfl⟩
              have hnx : s' = blocks X start0 (k + 1) := by
                rw [← hs', blocks, hp', hs]
                apply mixed_congr
                intro j hj
                rw [List.getD_eq_getElem?_getD, List.getD_eq_getElem?_getD, List.getElem?_take_of_lt hj]
              have K := ref1_block g 64 (c2 - p) (some ⟨gb, ob + p, none⟩) ((X.drop p).take 64) s wr.drew hok (by rw [List.length_take, List.length_drop, HXL.out]; omega) (Nat.le_refl _) (fun b hb => HXLT.out b (List.mem_of_mem_drop (List.mem_of_mem_take hb))) htw hrq
              rw [hs'] at K
              have HK := Lib.hid K
              have HNX := Lib.hid hnx
              have HSTV := Lib.hid hstv
              have p8 : ((p + 64 : Nat) : Int) - p = 64 := by omega
              have p9 : p + 64 - p = 64 := by omega
              clear K hrp hrq htw hs' hnx hp' hn2' hstv hst hs
              go_upto_region 13 with (fail)
              obtain ⟨S, HS⟩ : ∃ S : World → Prop, Hid (∀ w', S w' = (w'.rangeAt wo.heap.size 0 [.int .u32 s.a, .int .u32 s.b, .int .u32 s.c, .int .u32 s.d, .int .u32 s.e, .int .u32 s.f, .int .u32 s.g, .int .u32 s.h])) := ⟨_, fun _ => rfl⟩
              refine wp_region_seq S 7 [(0, false), (1, false), (2, false), (3, false), (4, false), (5, false), (6, false), (7, true), (8, true)] (by kernel_rfl) rfl (by kernel_rfl) (by kernel_rfl) (by kernel_rfl) (fun _ _ d _ _ h => by cases d <;> exact h) ((HS.out _).mpr (rangeAt_blk (l := [.int .u32 s.a, .int .u32 s.b, .int .u32 s.c, .int .u32 s.d, .int .u32 s.e, .int .u32 s.f, .int .u32 s.g, .int .u32 s.h]) HSTV.out 0 _ (fun j u h => by simpa using h))) ?_
              iterate 1 (refine wpSeq_read rfl rfl ⟨?_, fun w1 hS => ?_, ?_⟩; rotate_left; (focus (go_simp; (try go_bits); try rfl)); simp only [Act.put, List.setIfInBounds_toArray, List.set_cons_zero, List.set_cons_succ])
              refine wpSeq_load rfl rfl 76 (.tmp 8) rfl wo.heap.size 0 rfl [.int .u32 s.a, .int .u32 s.b, .int .u32 s.c, .int .u32 s.d, .int .u32 s.e, .int .u32 s.f, .int .u32 s.g, .int .u32 s.h] _ (fun w1 hS => (HS.out w1).mp hS) Tryd.underlying76 rfl (by kernel_rfl) ?_
              try simp only [Act.put, List.setIfInBounds_toArray, List.set_cons_zero, List.set_cons_succ]
              iterate 1 (refine wpSeq_read rfl rfl ⟨?_, fun w1 hS => ?_, ?_⟩; rotate_left; (focus (go_simp; (try go_bits); try rfl)); simp only [Act.put, List.setIfInBounds_toArray, List.set_cons_zero, List.set_cons_succ])
              iterate 1 (refine wpSeq_read rfl rfl ⟨?_, fun w1 hS => ?_, ?_⟩; rotate_left; (focus (go_simp; (try go_bits); try rfl)); simp only [Act.put, List.setIfInBounds_toArray, List.set_cons_zero, List.set_cons_succ])
              iterate 1 (refine wpSeq_read rfl rfl ⟨?_, fun w1 hS => ?_, ?_⟩; rotate_left; (focus (go_simp; (try go_bits); try rfl)); simp only [Act.put, List.setIfInBounds_toArray, List.set_cons_zero, List.set_cons_succ])
              iterate 1 (refine wpSeq_read rfl rfl ⟨?_, fun w1 hS => ?_, ?_⟩; rotate_left; (focus (go_simp; (try go_bits); try rfl)); simp only [Act.put, List.setIfInBounds_toArray, List.set_cons_zero, List.set_cons_succ])
              refine wpSeq_read rfl rfl ⟨.slice (some ⟨gb, ob + p, none⟩) 64 (c2 - p), fun w1 hS => ?_, ?_⟩
              · go_simp
                trace_state
              try simp only [Act.put, List.setIfInBounds_toArray, List.set_cons_zero, List.set_cons_succ]
              refine wpSeq_write rfl rfl ?_
              go_simp
              refine HK.out.mono ?_
              rintro e w2 ⟨rfl, b2⟩
              have b2' := below_undrew b2
              have s2 := HSTV.out.below b2' HSTV.out.lt
              have HS2 := Lib.hid s2
              have HB3 := Lib.hid (below_setRow ((hbw.out).trans (b2'.mono hbw.out.size)) (Nat.le_refl wo.heap.size) s'.vals)
              try simp only [Act.put, List.setIfInBounds_toArray, List.set_cons_zero, List.set_cons_succ]
              refine wpSeq_write rfl rfl ?_
              refine wp_store_row 76 (.tmp 8) (.tmp 57) rfl wo.heap.size s'.vals rfl rfl 76 _ HS2.out (by kernel_rfl) rfl (by simp [St.vals, Value.oneCell']) ?_
              refine ⟨fun h => absurd h (by decide), ?_⟩
              refine wpSeq_nil ?_
              clear b2 b2' s2
              go_wp2
              go_roundw
              case rel => exact ⟨k + 1, p + 64, by omega, Lib.hid (by have := hp.out; omega), by go_num, Lib.hid (by rw [← HNX.out]; exact HS2.out.setRow _), HB3⟩
              case measure => simp only [intOf]; omega
            · have hk' : k = M := by omega
              have q1 : ¬ (p : Int) < n2 := by have := hp.out; have := HN2.out; omega
              have hsq := hst.out
              rw [hk', HSH.out] at hsq
              obtain ⟨st, hst'⟩ : ∃ s, shaSt bs = s := ⟨_, rfl⟩
              rw [hst'] at hsq
              obtain ⟨W6, rfl⟩ : ∃ x, x = wr := ⟨_, rfl⟩
              have hok : st.ok := by rw [← hst']; exact blocks_ok _ _ (blocks_ok _ _ start0_ok _) _
              have hlist := St.ok_list hok
              have hZ6 : Blk W6 G 28 #[.int .u8 0, .int .u8 0, .int .u8 0, .int .u8 0, .int .u8 0, .int .u8 0, .int .u8 0, .int .u8 0, .int .u8 0, .int .u8 0, .int .u8 0, .int .u8 0, .int .u8 0, .int .u8 0, .int .u8 0, .int .u8 0, .int .u8 0, .int .u8 0, .int .u8 0, .int .u8 0, .int .u8 0, .int .u8 0, .int .u8 0, .int .u8 0, .int .u8 0, .int .u8 0, .int .u8 0, .int .u8 0, .int .u8 0, .int .u8 0, .int .u8 0, .int .u8 0] := HZO.out.below hbw.out gho
              have hB6 : Below w.heap.size w W6 := HBO.out.trans (hbw.out.mono (by have := HG.out; omega))
              have HS6 := Lib.hid hsq
              have HZ6 := Lib.hid hZ6
              have HB6 := Lib.hid hB6
              have HSHA := Lib.hid hst'
              have HLI := Lib.hid hlist
              have lW6 : wo.heap.size < W6.heap.size := hsq.lt
              have gW6 : G < W6.heap.size := hZ6.lt
              have hD7 : Blk (W6.alloc (.cells #[.int .u8 0, .int .u8 0, .int .u8 0, .int .u8 0, .int .u8 0, .int .u8 0, .int .u8 0, .int .u8 0, .int .u8 0, .int .u8 0, .int .u8 0, .int .u8 0, .int .u8 0, .int .u8 0, .int .u8 0, .int .u8 0, .int .u8 0, .int .u8 0, .int .u8 0, .int .u8 0, .int .u8 0, .int .u8 0, .int .u8 0, .int .u8 0, .int .u8 0, .int .u8 0, .int .u8 0, .int .u8 0, .int .u8 0, .int .u8 0, .int .u8 0, .int .u8 0] 28)) W6.heap.size 28 (byv (prefL (digest st) 0)).toArray := by
                have h := Blk.new W6 28 #[.int .u8 0, .int .u8 0, .int .u8 0, .int .u8 0, .int .u8 0, .int .u8 0, .int .u8 0, .int .u8 0, .int .u8 0, .int .u8 0, .int .u8 0, .int .u8 0, .int .u8 0, .int .u8 0, .int .u8 0, .int .u8 0, .int .u8 0, .int .u8 0, .int .u8 0, .int .u8 0, .int .u8 0, .int .u8 0, .int .u8 0, .int .u8 0, .int .u8 0, .int .u8 0, .int .u8 0, .int .u8 0, .int .u8 0, .int .u8 0, .int .u8 0, .int .u8 0]
                exact h
              have HD7 := Lib.hid hD7
              clear hsq hZ6 hB6 hst' hlist hok hD7 hst hbw hk' hp hkM
              go_wp2_with fail
              go_loopw [11] (fun i wr => ∃ k : Nat, k ≤ 32 ∧ i = .int .i64 k ∧ Blk wr W6.heap.size 28 (byv (prefL (digest st) k)).toArray ∧ Below W6.heap.size W6 wr) (fun i _ => 32 - (intOf i).toNat)
              case atStart => exact ⟨0, by omega, rfl, HD7.out, (Below.refl _ _).alloc (Nat.le_refl _) _⟩
              case round =>
                obtain ⟨k, hk, rfl, hdk, hbk⟩ := hrel
                by_cases hk32 : k < 32
                · have qk : (k : Int) < 32 := by omega
                  obtain ⟨a, ha⟩ : ∃ a, k / 4 = a := ⟨_, rfl⟩
                  obtain ⟨b, hb⟩ : ∃ a, k % 4 = a := ⟨_, rfl⟩
                  obtain ⟨s, hs⟩ : ∃ s, 24 - 8 * b = s := ⟨_, rfl⟩
                  have u1 : Int.tdiv (k : Int) 4 = (a : Int) := by rw [Int.tdiv_eq_ediv_of_nonneg (by omega)]; omega
                  have u2 : Int.tmod (k : Int) 4 = (b : Int) := by rw [Int.tmod_eq_emod_of_nonneg (by omega)]; omega
                  have u3 : IntKind.i64.wrap (a : Int) = a := IntWalk.i64_in _ (by omega)
                  have u4 : IntKind.i64.wrap (b : Int) = b := IntWalk.i64_in _ (by omega)
                  have u5 : IntKind.i64.wrap (8 * (b : Int)) = 8 * (b : Int) := IntWalk.i64_in _ (by omega)
                  have u6 : IntKind.i64.wrap (24 - 8 * (b : Int)) = (s : Int) := by rw [show (24 - 8 * (b : Int)) = (s : Int) by omega]; exact IntWalk.i64_in _ (by omega)
                  have u7 : (a : Int) < 8 := by omega
                  have u8' : IntKind.u64.wrap (s : Int) = s := IntWalk.u64_in _ (by omega)
                  have u9 : min s 32 = s := by omega
                  have cs := (HS6.out.below hbk lW6).cell a
                  rw [St.vals_list, list_cell (by simp [St.list]; omega)] at cs
                  obtain ⟨x, hx⟩ : ∃ x, st.list.getD a 0 = x := ⟨_, rfl⟩
                  rw [hx] at cs
                  have lx : x < 4294967296 := hx ▸ HLI.out.getD a
                  have cd := hdk.cell k
                  rw [byv_get (by simp [prefL, digest]; omega)] at cd
                  have fd := hdk.frozen k
                  have Hdk := Lib.hid hdk
                  have Hbk := Lib.hid hbk
                  have Hx := Lib.hid hx
                  have Ha := Lib.hid ha
                  have Hb := Lib.hid hb
                  have Hs := Lib.hid hs
                  clear hdk hbk hx ha hb hs
                  go_wp2_with fail
                  go_roundw
                  case rel =>
                    refine ⟨k + 1, by omega, by go_num, ?_, Hbk.out.setCell (Nat.le_refl _) _⟩
                    have e : ((x : Int) / 2 ^ s % 256) = ((x / 2 ^ s % 256 : Nat) : Int) := by
                      push_cast
                      rfl
                    rw [e, ← prefL_set (L := digest st) (k := k) (v := x / 2 ^ s % 256) (by simp [digest]; omega) (by rw [digest_at st hk32, Ha.out, Hb.out, Hs.out, Hx.out])]
                    exact Hdk.out.set_ k _
                  case measure => simp [intOf]; omega
                · have qk : ¬ (k : Int) < 32 := by omega
                  have hk' : k = (digest st).length := by simp [digest]; omega
                  rw [hk', prefL_all] at hdk
                  have hV : (byv (digest st)).length = 32 := by simp [byv, digest]
                  have hV1 := byv_one (digest st)
                  obtain ⟨V, hVV⟩ : ∃ V, byv (digest st) = V := ⟨_, rfl⟩
                  rw [hVV] at hdk hV hV1
                  have HRG := Lib.hid (rangeAt_blk hdk 0 V (fun j u h => by simpa using h))
                  have z7 := HZ6.out.below hbk gW6
                  have HV := Lib.hid hV
                  have HV1 := Lib.hid hV1
                  have HVV := Lib.hid hVV
                  have Hbk := Lib.hid hbk
                  have HI := Lib.hid (show (Tryd.prog.info? 28).map (·.size) = some V.length by rw [hV]; exact Tryd.dig_info)
                  clear hdk hV hV1 hVV hbk hk' hk32
                  go_wp2_with (first
                    | (refine load_mid_want rfl 28 (.tmp 10) rfl W6.heap.size 0 rfl V _ HRG.out Tryd.underlying28 rfl HI.out ?_)
                    | (refine wpList_store_row rfl 28 (.tmp 4) (.tmp 75) rfl G V.toArray rfl rfl 28 _ z7 (by simpa using HI.out) (by simp [HV.out]) (by simpa using HV1.out) ?_))
                  have z8 := z7.setRow V.toArray
                  have HRZ := rangeAt_blk z8 0 V (fun j u h => by simpa using h)
                  refine bodyPost_ret (v := .agg V.toArray) (results_cell rfl rfl (run_loadVar_mid _ _ 0 _ V _ HRZ Tryd.underlying28 rfl HI.out)) rfl ⟨?_, below_setRow (HB6.out.trans (Hbk.out.mono (by have := HG.out; omega))) (by rw [HG.out]; exact Nat.le_refl _) _⟩
                  rw [← HVV.out, ← HSHA.out]
                  rfl
        | succ m =>
          have em : 8 * (((m + 1 : Nat)) : Int) - 8 = ((8 * m : Nat) : Int) := by omega
          rw [em]
          clear em
          have hlj : (T ++ (be N 8).take j).length + 1 ≤ 8589934592 := by have := HTL.out; rw [List.length_append, List.length_take, be_length]; omega
          have Hjm := Lib.hid hjm
          have hm8 : m ≤ 7 := by omega
          have hbs := hbe.out.size
          obtain ⟨s, hs⟩ : ∃ s, 8 * m = s := ⟨_, rfl⟩
          rw [hs]
          have s56 : s ≤ 56 := by omega
          have s1 : IntKind.u64.wrap (s : Int) = s := IntWalk.u64_in _ (by omega)
          have s2 : min s 64 = s := by omega
          have s3 : IntKind.i64.wrap ((s : Int) - 8) = (s : Int) - 8 := IntWalk.i64_in _ (by omega)
          obtain ⟨bv, hbv⟩ : ∃ b, N / 2 ^ s % 256 = b := ⟨_, rfl⟩
          have s4 : ((N : Int) / 2 ^ s % 256) = (bv : Int) := by rw [← hbv]; push_cast; rfl
          have HBV := Lib.hid hbv
          have HSS := Lib.hid hs
          clear hbv hjm hs
          go_wp2_with (at_builtin; refine append_bytes rfl (.tmp 32) (.tmp 38) rfl W0.heap.size _ _ rfl (hown.out.alloc _) _ 1 1 [bv] rfl (by simpa using reads_one wr bv) hlj (by simp; omega) ?_)
          intro v3 w3 hown3 hb3 hg3
          have HW : Hid (OwnB w3 W0.heap.size v3 (T ++ (be N 8).take (j + 1))) := Lib.hid (by
            rw [be_step N j m Hjm.out, HSS.out, HBV.out]
            exact hown3)
          have HB := Lib.hid ((hbe.out.alloc hbs (.cells #[.int .u8 (bv : Int)] 5)).trans hb3)
          clear hown3 hb3 hg3 hbe hown
          go_wp2_with fail
          go_roundw
          case rel => exact ⟨j + 1, m, by have := Hjm.out; omega, by have := HSS.out; congr 1; omega, HW, HB⟩
          case measure => simp only [intOf]; have := HSS.out; omega

end Go.Proofs.YtamhggndcegndaaDoor
