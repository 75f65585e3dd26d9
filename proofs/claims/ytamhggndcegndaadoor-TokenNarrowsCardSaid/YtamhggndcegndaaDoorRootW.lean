/-
  deponentref1: limbs, times.
-/
import Derived.Test.YtamhggndcegndaaDoorRootP
import Derived.Test.YtamhggndcegndaaDoorOwn
import Derived.Laws.MakeOwn
import Derived.Laws.OwnMore
namespace Go.Proofs.YtamhggndcegndaaDoor
open Go.RowKit
set_option linter.unusedVariables false
set_option maxRecDepth 100000

def u64v (l : List Nat) : List Value := l.map fun n : Nat => Value.int .u64 (n : Int)

theorem u64v_length (l : List Nat) : (u64v l).length = l.length := by simp [u64v]

theorem u64v_at {l : List Nat} {i x : Nat} (h : l[i]? = some x) : (u64v l)[i]? = some (.int .u64 (x : Int)) := by simp [u64v, h]

theorem u64v_set (l : List Nat) (i x : Nat) : (u64v l).toArray.setIfInBounds i (.int .u64 (x : Int)) = (u64v (l.set i x)).toArray := by simp [u64v, List.map_set]

theorem Tryd.u64_info : (Tryd.prog.info? 24).map (fun i => (i.zero, i.size, i.bytes)) = some (some (.int .u64 0), 1, 8) := by kernel_rfl

theorem make_u64 (n : Nat) (hn : n ≤ 1000000) (w : World) : (Instr.makeSlice 79 (.int .i64 (n : Int)) (.int .i64 (n : Int))).run Tryd.prog w = .ok (.slice (some ⟨w.heap.size, 0, none⟩) n n) (w.alloc (.cells (u64v (List.replicate n 0)).toArray 24)) := by
  obtain ⟨i0, hi0, hz0, hz1, hz2⟩ := info_parts Tryd.u64_info
  have h := run_make (P := Tryd.prog) w 79 24 i0 _ Tryd.underlying79 hi0 hz0 .i64 .i64 n n (by omega) (Int.le_refl _) (by rw [hz2]; omega) (by omega)
  rw [h, hz1]
  have e : madeCells (Value.int .u64 0).cells ((n : Int).toNat * 1) = (u64v (List.replicate n 0)).toArray := by
    apply Array.ext'
    rw [show (Value.int .u64 0).cells = #[Value.int .u64 0] from rfl, toList_madeCells_one]
    simp [u64v]
  rw [e]
  simp

theorem reads_u64_le {w : World} {B : Nat} {A : Option Addr} {n : Nat} {l : List Nat} (h : Reads w B 1 A n (u64v l)) : l.length = n := by
  have := h.1
  simpa [u64v] using this

theorem reads_u64_blk {w : World} {g : Nat} {l : List Nat} (h : Blk w g 24 (u64v l).toArray) : Reads w w.heap.size 1 (some ⟨g, 0, none⟩) l.length (u64v l) := by
  refine ⟨by rw [u64v_length, Nat.mul_one], fun _ => ⟨_, rfl, h.lt, fun j u hu => ?_⟩⟩
  rw [Addr.add_mid, h.cell (0 + j), Nat.zero_add]
  simpa using hu

theorem u64_ffff (n : Nat) (hn : n < 18446744073709551616) : bits .and .u64 (n : Int) 65535 = ((n % 65536 : Nat) : Int) := by
  have h := bits_and_u64_nat n 65535 hn (by decide)
  rw [show ((65535 : Nat) : Int) = 65535 from rfl] at h
  rw [h, show (65535 : Nat) = 2 ^ 16 - 1 from rfl, Nat.and_two_pow_sub_one_eq_mod]

theorem ref1_limbs (x : Nat) (w : World) (hx : x < 18446744073709551616) :
    Calls Tryd.prog 80 #[.int .u64 x] w fun e w' => e = .returned (.slice (some ⟨w.heap.size, 0, none⟩) 4 4) ∧ Blk w' w.heap.size 24 (u64v (limbsL x)).toArray ∧ Below w.heap.size w w' := by
  obtain ⟨x1, h1⟩ : ∃ y, x / 65536 = y := ⟨_, rfl⟩
  obtain ⟨x2, h2⟩ : ∃ y, x / 4294967296 = y := ⟨_, rfl⟩
  obtain ⟨x3, h3⟩ : ∃ y, x / 281474976710656 = y := ⟨_, rfl⟩
  have a0 := u64_ffff x hx
  have a1 := u64_ffff x1 (by omega)
  have a2 := u64_ffff x2 (by omega)
  have q1 : (x : Int) / 65536 = x1 := by omega
  have q2 : (x : Int) / 4294967296 = x2 := by omega
  have q3 : (x : Int) / 281474976710656 = x3 := by omega
  have e : limbsL x = [x % 65536, x1 % 65536, x2 % 65536, x3] := by rw [← h1, ← h2, ← h3]; rfl
  rw [e]
  clear h1 h2 h3 e
  go_enter Tryd.func80, Tryd.ntmps80
  go_wp2
  go_ret
  exact ⟨rfl, Blk.new _ _ _, (Below.refl _ _).alloc (Nat.le_refl _) _⟩

set_option maxHeartbeats 4000000 in
theorem ref1_times (A B : List Nat) (pa pb : Option Addr) (na ca nb cb : Nat) (w : World) (ha : Reads w w.heap.size 1 pa na (u64v A)) (hb : Reads w w.heap.size 1 pb nb (u64v B)) (h1 : 0 < na) (h2 : 0 < nb) (h3 : na ≤ 1000) (h4 : nb ≤ 1000) (hA : Parts A) (hB : Parts B) :
    Calls Tryd.prog 81 #[.slice pa na ca, .slice pb nb cb] w fun e w' => ∃ o : List Nat, e = .returned (.slice (some ⟨w.heap.size, 0, none⟩) (na + nb) (na + nb)) ∧ Blk w' w.heap.size 24 (u64v o).toArray ∧ o.length = na + nb ∧ Parts o ∧ pval o = pval A * pval B ∧ Below w.heap.size w w' := by
  have lA := reads_u64_le ha
  have lB := reads_u64_le hb
  obtain ⟨m, hm⟩ : ∃ m, na + nb = m := ⟨_, rfl⟩
  have hmi : (na : Int) + nb = m := by omega
  have mk := fun w => make_u64 m (by omega) w
  obtain ⟨Z, hZ⟩ : ∃ Z, (u64v (List.replicate m 0)).toArray = Z := ⟨_, rfl⟩
  simp only [hZ] at mk
  have z0 := Blk.new w 24 Z
  have b0 : Below w.heap.size w (w.alloc (.cells Z 24)) := (Below.refl _ _).alloc (Nat.le_refl _) _
  obtain ⟨W0, hW0⟩ : ∃ x, x = w.alloc (.cells Z 24) := ⟨_, rfl⟩
  rw [← hW0] at z0 b0
  rw [← hZ] at z0
  obtain ⟨ba, oa, rfl, hba, hca⟩ := ha.mid (by omega) (by omega)
  obtain ⟨bb, ob, rfl, hbb, hcb⟩ := hb.mid (by omega) (by omega)
  obtain ⟨g, hg⟩ : ∃ g, w.heap.size = g := ⟨_, rfl⟩
  have r0 := rows_start A B
  rw [lA, lB, hm] at r0
  have HCA := Lib.hid hca
  have HCB := Lib.hid hcb
  have HA := Lib.hid hA
  have HBp := Lib.hid hB
  have LA := Lib.hid lA
  have LB := Lib.hid lB
  have HM := Lib.hid hm
  have Z0 := Lib.hid (show Blk W0 g 24 (u64v (List.replicate m 0)).toArray by rw [← hg]; exact z0)
  have B0 := Lib.hid (show Below g w W0 by rw [← hg]; exact b0)
  have R0 := Lib.hid r0
  have HW0 := Lib.hid hW0
  rw [hg] at hba hbb ⊢
  have HG := Lib.hid hg
  clear ha hb lA lB hA hB hca hcb z0 b0 r0 hZ hW0 hm hg
  go_enter Tryd.func81, Tryd.ntmps81
  go_upto_region 2 with (fail)
  rw [← HW0.out, HG.out]
  clear mk hmi
  go_wp2_with fail
  go_loopw [6] (fun i wr => ∃ (k : Nat) (o : List Nat), k ≤ na ∧ i = .int .i64 k ∧ Hid (RowsAt A B k o) ∧ Hid (Blk wr g 24 (u64v o).toArray) ∧ Hid (Below g w wr)) (fun i _ => na - (intOf i).toNat)
  case atStart => exact ⟨0, _, by omega, rfl, R0.out, Z0.out, B0.out⟩
  case round =>
    clear R0 Z0 B0
    obtain ⟨k, o, hk, rfl, hrows, hblk, hbel⟩ := hrel
    by_cases hlt : k < na
    · obtain ⟨ai, hai⟩ : ∃ x, A[k]? = some x := ⟨_, List.getElem?_eq_getElem (by rw [LA.out]; exact hlt)⟩
      have hai1 := HA.out.get hai
      have HAI := Lib.hid hai
      have RS := Lib.hid (row_start (ai := ai) hrows.out)
      clear hai
      have qk : (k : Int) < na := by omega
      go_wp2_with fail
      go_loopw [7, 8] (fun c j wr => ∃ (jk : Nat) (o' : List Nat) (cv : Nat), jk ≤ nb ∧ cv < 65536 ∧ c = .int .u64 cv ∧ j = .int .i64 jk ∧ Hid (RowAt A B k jk ai o' cv (pval o)) ∧ Hid (Blk wr g 24 (u64v o').toArray) ∧ Hid (Below g w wr)) (fun _ j _ => nb - (intOf j).toNat)
      case atStart => exact ⟨0, o, 0, by omega, by omega, rfl, rfl, RS.out, hblk.out, hbel.out⟩
      case round =>
        clear RS hblk hbel
        obtain ⟨jk, o', cv, hj, hcv, rfl, rfl, hrow, hblk, hbel⟩ := hrel
        have lo : o'.length = m := by rw [hrow.out.len, LA.out, LB.out]; exact HM.out
        by_cases hlj : jk < nb
        · obtain ⟨bk, hbk⟩ : ∃ x, B[jk]? = some x := ⟨_, List.getElem?_eq_getElem (by rw [LB.out]; exact hlj)⟩
          obtain ⟨oj, hoj⟩ : ∃ x, o'[k + jk]? = some x := ⟨_, List.getElem?_eq_getElem (by rw [lo]; have := HM.out; omega)⟩
          have hbk1 := HBp.out.get hbk
          have hoj1 := hrow.out.parts.get hoj
          have ca := (hbel.out.cell (p := ⟨ba, oa + k, none⟩) hba).trans (HCA.out k _ (u64v_at HAI.out))
          have cb := (hbel.out.cell (p := ⟨bb, ob + jk, none⟩) hbb).trans (HCB.out jk _ (u64v_at hbk))
          have STEP := row_step HBp.out hai1 hrow.out hbk hoj
          have hpm : ai * bk ≤ 65535 * 65535 := Nat.mul_le_mul (by omega) (by omega)
          obtain ⟨s, hs⟩ : ∃ s, k + jk = s := ⟨_, rfl⟩
          rw [hs] at hoj STEP
          have co := (hblk.out.cell s).trans (show _ = some (.int .u64 (oj : Int)) by simpa using u64v_at hoj)
          have cf := hblk.out.frozen s
          have hsm : s < m := by have := HM.out; omega
          obtain ⟨pm, hpm'⟩ : ∃ x, ai * bk = x := ⟨_, rfl⟩
          rw [hpm'] at STEP hpm
          obtain ⟨n, hn⟩ : ∃ n, oj + pm + cv = n := ⟨_, rfl⟩
          rw [hn] at STEP
          obtain ⟨nd, hnd⟩ : ∃ x, n / 65536 = x := ⟨_, rfl⟩
          obtain ⟨nm, hnm⟩ : ∃ x, n % 65536 = x := ⟨_, rfl⟩
          rw [hnd, hnm] at STEP
          have ST := Lib.hid STEP
          have f1 : IntKind.i64.wrap ((k : Int) + jk) = s := by rw [show (k : Int) + jk = s by omega]; exact IntWalk.i64_in _ (by omega)
          have f2 : IntKind.u64.wrap ((ai : Int) * bk) = pm := by
            rw [show (ai : Int) * bk = pm by rw [← hpm']; simp]
            exact IntWalk.u64_in _ (by omega)
          have f3 : IntKind.u64.wrap ((oj : Int) + pm) = ((oj + pm : Nat) : Int) := by rw [show (oj : Int) + pm = ((oj + pm : Nat) : Int) by omega]; exact IntWalk.u64_in _ (by omega)
          have f4 : IntKind.u64.wrap (((oj + pm : Nat) : Int) + cv) = n := by rw [show ((oj + pm : Nat) : Int) + cv = n by omega]; exact IntWalk.u64_in _ (by omega)
          obtain ⟨op, hop⟩ : ∃ x, oj + pm = x := ⟨_, rfl⟩
          rw [hop] at f3 f4
          have f5 : bits .and .u64 (n : Int) 65535 = nm := by rw [u64_ffff n (by omega), hnm]
          have f6 : (n : Int) / 65536 = nd := by omega
          have qs : (s : Int) < m := by omega
          have G1 := Lib.hid (show (k : Int) + jk = s by omega)
          have qj : (jk : Int) < nb := by omega
          have hnd1 : nd < 65536 := by omega
          have HBL := Lib.hid (show Blk (wr.drew.setCell ⟨g, s, none⟩ (.int .u64 (nm : Int))) g 24 (u64v (o'.set s nm)).toArray by
            have := (hblk.out.drew).set_ s (.int .u64 (nm : Int))
            rw [u64v_set] at this
            exact this)
          have HBE := Lib.hid (show Below g w (wr.drew.setCell ⟨g, s, none⟩ (.int .u64 (nm : Int))) from hbel.out.drew.setCell (p := ⟨g, s, none⟩) (Nat.le_refl _) _)
          clear hbk hoj STEP hs hpm' hn hnd hnm hop hpm hrow hblk hbel
          go_upto_region 9 with (fail)
          obtain ⟨S, HS⟩ : ∃ S : World → Prop, Hid (∀ w', S w' = (w'.cell? ⟨g, s, none⟩ = some (.int .u64 (oj : Int)) ∧ w'.cell? ⟨ba, oa + k, none⟩ = some (.int .u64 (ai : Int)) ∧ w'.cell? ⟨bb, ob + jk, none⟩ = some (.int .u64 (bk : Int)))) := ⟨_, fun _ => rfl⟩
          refine wp_region_seq S 19 [(0, false), (1, false), (2, false), (3, false), (4, false), (5, false), (6, false), (7, false), (8, false), (9, false), (10, false), (11, false), (12, false), (13, false), (14, false), (15, false), (16, false), (17, false), (18, false)] (by kernel_rfl) rfl (by kernel_rfl) (by kernel_rfl) (by kernel_rfl) (fun _ _ d _ _ h => by cases d <;> exact h) ((HS.out _).mpr ⟨co, ca, cb⟩) ?_
          repeat (refine wpSeq_read rfl rfl ⟨?_, fun w1 hS => ?_, ?_⟩; rotate_left; (focus (rw [HS.out] at hS; go_split_ands; go_simp; (try go_bits); try rfl)); simp only [Act.put, List.setIfInBounds_toArray, List.set_cons_zero, List.set_cons_succ])
          refine wpSeq_nil ?_
          clear f1 f2 f3 f4
          have f1 := G1.out
          go_wp2
          go_roundw
          case rel => exact ⟨jk + 1, _, nd, by omega, hnd1, rfl, by go_num, ST, HBL, HBE⟩
          case measure => simp [intOf]; omega
        · obtain rfl : nb = jk := by omega
          have hrow' := hrow.out
          rw [← LB.out] at hrow'
          obtain ⟨e1, e2⟩ := row_end hrows.out HAI.out hrow'
          rw [LB.out] at e1 e2
          obtain ⟨s, hs⟩ : ∃ s, k + nb = s := ⟨_, rfl⟩
          rw [hs] at e1 e2
          have co := (hblk.out.cell s).trans (show _ = some (.int .u64 ((0 : Nat) : Int)) by simpa using u64v_at e1)
          rw [show ((0 : Nat) : Int) = 0 from rfl] at co
          have cf := hblk.out.frozen s
          have hsm : s < m := by have := HM.out; omega
          have f1 : (k : Int) + nb = s := by omega
          have qs : (s : Int) < m := by omega
          have q0 : ¬ (nb : Int) < nb := by omega
          have ER := Lib.hid e2
          have HBL := Lib.hid (show Blk (wr.setCell ⟨g, s, none⟩ (.int .u64 (cv : Int))) g 24 (u64v (o'.set s cv)).toArray by
            have := hblk.out.set_ s (.int .u64 (cv : Int))
            rw [u64v_set] at this
            exact this)
          have HBE := Lib.hid (show Below g w (wr.setCell ⟨g, s, none⟩ (.int .u64 (cv : Int))) from hbel.out.setCell (p := ⟨g, s, none⟩) (Nat.le_refl _) _)
          clear hrow hrow' hrows e1 e2 hs hblk hbel lo
          go_wp2
          go_roundw
          case rel => exact ⟨k + 1, _, by omega, by go_num, ER, HBL, HBE⟩
          case measure => simp [intOf]; omega
    · obtain rfl : na = k := by omega
      have hr := hrows.out
      rw [← LA.out] at hr
      have hv := rows_end hr
      have HR := Lib.hid (show o.length = na + nb ∧ Parts o ∧ pval o = pval A * pval B from ⟨by rw [hr.len, LA.out, LB.out], hr.parts, hv⟩)
      clear hr hv
      go_wp2
      go_ret
      exact ⟨o, by rw [HM.out]; rfl, hblk.out, HR.out.1, HR.out.2.1, HR.out.2.2, hbel.out⟩

end Go.Proofs.YtamhggndcegndaaDoor
