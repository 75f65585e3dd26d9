/-
  deponentbook.Book of caveats: Apart; the mark of chapter 12's law.
-/
import Derived.Test.YtamhggndcegndaaDoorBook
namespace Go.Proofs.YtamhggndcegndaaDoor
open Go.RowKit
set_option linter.unusedVariables false
set_option maxRecDepth 100000

def markv (i j : Nat) : Int × Nat := (-100 - (i : Int), j % 4294967296)

theorem built_cav (k : Int) (N : Nat) : Tryd.prog.built 37 [(0, .int .i64 k), (1, .int .u32 (N : Int))] = some #[.int .i64 k, .int .u32 (N : Int)] := by kernel_rfl

set_option maxHeartbeats 1000000 in
theorem law_mark (i j : Nat) (w : World) (hi : i ≤ 1000000) (hj : j ≤ 9223372036854775807) :
    Calls Tryd.prog 28 #[.int .i64 i, .int .i64 j] w fun e w' => e = .returned (.agg #[.int .i64 (markv i j).1, .int .u32 ((markv i j).2 : Int)]) ∧ Below w.heap.size w w' := by
  have h1 : IntKind.i64.wrap (-100 - (i : Int)) = -100 - (i : Int) := IntWalk.i64_in _ (by omega)
  have h2 : IntKind.u32.wrap (j : Int) = ((j % 4294967296 : Nat) : Int) := by rw [IntKind.wrap_u32]; omega
  have HM1 : Hid ((markv i j).1 = -100 - (i : Int)) := rfl
  have HM2 : Hid ((markv i j).2 = j % 4294967296) := rfl
  obtain ⟨N, hN⟩ : ∃ N, j % 4294967296 = N := ⟨_, rfl⟩
  rw [hN] at h2 HM2
  obtain ⟨W0, hW0⟩ : ∃ x, x = w.alloc (.cells #[.int .i64 0, .int .u32 0] 37) := ⟨_, rfl⟩
  have z0 : Blk W0 w.heap.size 37 #[.int .i64 0, .int .u32 0] := by rw [hW0]; exact Blk.new _ _ _
  have b0 : Below w.heap.size w W0 := by rw [hW0]; exact below_new (Below.refl _ _) _
  have HW0 := Lib.hid hW0
  have Z0 := Lib.hid z0
  clear hW0 z0 hN
  go_enter Tryd.func28, Tryd.ntmps28
  go_upto_region 1 with (fail)
  rw [← HW0.out]
  go_wp2_with (refine wpList_store_row rfl 37 (.tmp 4) (.tmp 9) rfl w.heap.size #[.int .i64 (-100 - (i : Int)), .int .u32 (N : Int)] rfl rfl 37 _ Z0.out (by kernel_rfl) rfl (cav_one (-100 - (i : Int), N)) ?_)
  have z8 := Z0.out.setRow #[.int .i64 (-100 - (i : Int)), .int .u32 (N : Int)]
  have HRZ := rangeAt_blk (l := [.int .i64 (-100 - (i : Int)), .int .u32 (N : Int)]) z8 0 _ (fun j u h => by simpa using h)
  refine bodyPost_ret (v := .agg #[.int .i64 (-100 - (i : Int)), .int .u32 (N : Int)]) (results_cell rfl rfl (run_loadVar_mid _ _ 0 _ [.int .i64 (-100 - (i : Int)), .int .u32 (N : Int)] _ HRZ Tryd.underlying37 rfl (by kernel_rfl))) rfl ⟨by rw [HM1.out, HM2.out], below_setRow b0 (Nat.le_refl _) _⟩

/-- A row of marks, the first ones. -/
def markRow (i m : Nat) : List Value := cavv ((List.range m).map (markv i))

theorem markRow_length (i m : Nat) : (markRow i m).length = m * 2 := by simp [markRow, cavv_length]

theorem markRow_succ (i m : Nat) : markRow i (m + 1) = markRow i m ++ [.int .i64 (markv i m).1, .int .u32 ((markv i m).2 : Int)] := by
  unfold markRow
  rw [List.range_succ, List.map_append, cavv_append]
  rfl

theorem marked_step {D : List Value} {i j cap : Nat} (hl : D.length = cap * 2) (hj : j < cap) (ht : D.take (j * 2) = markRow i j) :
    (((D.set (j * 2) (.int .i64 (markv i j).1)).set (j * 2 + 1) (.int .u32 ((markv i j).2 : Int)))).take ((j + 1) * 2) = markRow i (j + 1) := by
  rw [markRow_succ, ← ht]
  have e : (j + 1) * 2 = j * 2 + 1 + 1 := by omega
  rw [e, List.take_succ_eq_append_getElem (by simp; omega), List.take_set_of_le (Nat.le_refl _), List.getElem_set_self, List.take_succ_eq_append_getElem (by simp; omega), List.take_set_of_le (Nat.le_refl _), List.getElem_set_self]
  simp

/-- A kept list's block, whatever stands in it. -/
def Unm (w : World) (B : Nat) (it : KIt) : Prop := ∃ (g n cap : Nat) (C : List Value), B ≤ g ∧ it.v = .slice (some ⟨g, 0, none⟩) n cap ∧ Blk w g 37 C.toArray ∧ C.length = cap * 2 ∧ cap ≤ maxLen ∧ n ≤ cap

/-- .. and full of its marks. -/
def Marked (w : World) (k : Nat) (it : KIt) : Prop := ∃ (g n cap : Nat), it.v = .slice (some ⟨g, 0, none⟩) n cap ∧ Blk w g 37 (markRow k cap).toArray ∧ cap ≤ maxLen ∧ n ≤ cap

theorem KOk.unm {w : World} {B : Nat} {its : List KIt} (h : KOk w B its) (it : KIt) (hi : it ∈ its) : Unm w B it := by
  obtain ⟨g, cap, C, e, hg, hb, hn, hc, hl, -⟩ := (h.own it hi).blk (h.ne it hi).1
  exact ⟨g, _, cap, C, hg, e, hb, hl, hc, hn⟩

theorem Unm.grown {w w' : World} {B : Nat} {it : KIt} {g : Nat} (h : Unm w B it) (hg : w.grownBy w' (some g)) (hne : it.v.ownBlock ≠ some g) : Unm w' B it := by
  obtain ⟨g', n, cap, C, hB, e, hb, rest⟩ := h
  exact ⟨g', n, cap, C, hB, e, hb.grown hg (fun e' => hne (by rw [e]; exact e')), rest⟩
theorem Marked.grown {w w' : World} {it : KIt} {g k : Nat} (h : Marked w k it) (hg : w.grownBy w' (some g)) (hne : it.v.ownBlock ≠ some g) : Marked w' k it := by
  obtain ⟨g', n, cap, e, hb, rest⟩ := h
  exact ⟨g', n, cap, e, hb.grown hg (fun e' => hne (by rw [e]; exact e')), rest⟩
theorem Unm.call {w w' : World} {B : Nat} {it : KIt} (h : Unm w B it) (hb' : Below w.heap.size w w') : Unm w' B it := by
  obtain ⟨g', n, cap, C, hB, e, hb, rest⟩ := h
  exact ⟨g', n, cap, C, hB, e, hb.below hb' hb.lt, rest⟩
theorem Marked.call {w w' : World} {it : KIt} {k : Nat} (h : Marked w k it) (hb' : Below w.heap.size w w') : Marked w' k it := by
  obtain ⟨g', n, cap, e, hb, rest⟩ := h
  exact ⟨g', n, cap, e, hb.below hb' hb.lt, rest⟩

theorem nodup_ne {its : List KIt} (h : (its.map fun it => it.v.ownBlock).Nodup) {i k : Nat} {a b : KIt} (hi : its[i]? = some a) (hk : its[k]? = some b) (hne : i ≠ k) : a.v.ownBlock ≠ b.v.ownBlock := by
  intro e
  obtain ⟨li, ei⟩ := List.getElem?_eq_some_iff.1 hi
  obtain ⟨lk, ek⟩ := List.getElem?_eq_some_iff.1 hk
  have key := List.pairwise_iff_getElem.1 h
  rcases Nat.lt_or_gt_of_ne hne with hlt | hgt
  · have := key i k (by simpa using li) (by simpa using lk) hlt
    simp only [List.getElem_map, ei, ek] at this
    exact this e
  · have := key k i (by simpa using lk) (by simpa using li) hgt
    simp only [List.getElem_map, ei, ek] at this
    exact this e.symm

/-- What Apart has done when it has come to the list i. -/
def Half (w : World) (B : Nat) (its : List KIt) (i : Nat) : Prop := ∀ k it, its[k]? = some it → (k < i → Marked w k it) ∧ (i ≤ k → Unm w B it)

theorem Half.call {w w' : World} {B : Nat} {its : List KIt} {i : Nat} (h : Half w B its i) (hb : Below w.heap.size w w') : Half w' B its i := fun k it hk => ⟨fun h1 => ((h k it hk).1 h1).call hb, fun h1 => ((h k it hk).2 h1).call hb⟩

theorem Half.step {w w' : World} {B : Nat} {its : List KIt} {i g n cap : Nat} {it : KIt} (h : Half w B its i) (hit : its[i]? = some it) (hn : (its.map fun it => it.v.ownBlock).Nodup) (e : it.v = .slice (some ⟨g, 0, none⟩) n cap) (hg : w.grownBy w' (some g)) (hb : Blk w' g 37 (markRow i cap).toArray) (hc : cap ≤ maxLen) (hnc : n ≤ cap) : Half w' B its (i + 1) := by
  intro k x hk
  by_cases hki : k = i
  · subst hki
    rw [hit] at hk
    injection hk with hk
    subst hk
    exact ⟨fun _ => ⟨g, n, cap, e, hb, hc, hnc⟩, fun h1 => by omega⟩
  · have hne : x.v.ownBlock ≠ some g := by
      have := nodup_ne hn hk hit hki
      rw [e] at this
      exact this
    exact ⟨fun h1 => ((h k x hk).1 (by omega)).grown hg hne, fun h1 => ((h k x hk).2 (by omega)).grown hg hne⟩

/-- The book's block and its first row. -/
structure BookB (w : World) (B gb : Nat) (v1 v2 : Value) (h : Int) (its : List KIt) : Prop where
  blk : Blk w gb 55 #[v1, v2, .int .i64 h, .bool false]
  le : B ≤ gb
  r1 : Row w v1 23 1 its.length (its.map KIt.v)

theorem BookB.call {w w' : World} {B gb : Nat} {v1 v2 : Value} {h : Int} {its : List KIt} (hb : BookB w B gb v1 v2 h its) (h' : Below w.heap.size w w') : BookB w' B gb v1 v2 h its := ⟨hb.blk.below h' hb.blk.lt, hb.le, hb.r1.call h'⟩
theorem BookB.grown {w w' : World} {B gb g : Nat} {v1 v2 : Value} {h : Int} {its : List KIt} {cs : Array Value} (hb : BookB w B gb v1 v2 h its) (hg : w.grownBy w' (some g)) (hc : Blk w g 37 cs) : BookB w' B gb v1 v2 h its :=
  ⟨hb.blk.grown hg (fun e => by injection e with e; exact (hb.blk.ne_ hc (by decide)) e), hb.le, hb.r1.grown hg (.inr (row_blk_ne hb.r1 hc (by decide)))⟩

theorem BookB.cells {w : World} {B gb g1 o1 n1 c1 : Nat} {v2 : Value} {h : Int} {its : List KIt} {it : KIt} {k : Nat} (hb : BookB w B gb (.slice (some ⟨g1, o1, none⟩) n1 c1) v2 h its) (hit : its[k]? = some it) : w.cell? ⟨g1, o1 + k, none⟩ = some it.v := by
  have hk : k < its.length := by
    rcases Nat.lt_or_ge k its.length with h | h
    · exact h
    · rw [List.getElem?_eq_none h] at hit; cases hit
  obtain ⟨g1', o1', c1', cur, e1, hb1, -, -, -, ht⟩ := hb.r1.form (by omega)
  injection e1 with e1 _ _
  injection e1 with e1
  injection e1 with e1 e3
  subst e1 e3
  have h1 : (its.map KIt.v)[k]? = some it.v := by rw [List.getElem?_map, hit]; rfl
  have h2 := take_get ht h1
  rw [List.getElem?_drop] at h2
  rw [hb1.cell, List.getElem?_toArray, h2]

set_option maxHeartbeats 4000000 in
theorem book_apart (B gb : Nat) (v1 v2 : Value) (h : Int) (its : List KIt) (w : World) (hB : BookAt w B gb v1 v2 h its) (hlen : its.length ≤ 1000) :
    Calls Tryd.prog 27 #[.pointer (some ⟨gb, 0, none⟩), .func (.func 28) #[] #[]] w fun e w' => e = .returned (.bool true) ∧ Below B w w' := by
  have HST := Lib.hid (book_stays B gb v1 v2 h its w hB (by omega))
  have HND := Lib.hid hB.ok.nodup
  clear hB
  go_enter Tryd.func27, Tryd.ntmps27
  go_wp2_with fail
  refine HST.out.mono ?_
  rintro e w1 ⟨rfl, hb1, b1⟩
  have HBB := Lib.hid (show BookB w1 B gb v1 v2 h its from ⟨hb1.blk, hb1.le, hb1.r1⟩)
  have HHF := Lib.hid (show Half w1 B its 0 from fun k it hk => ⟨fun h => by omega, fun _ => hb1.ok.unm it (List.mem_of_getElem? hk)⟩)
  have HBE := Lib.hid b1
  clear hb1 b1
  go_wp2_with fail
  go_loopw [5, 6, 7] (fun i _ _ wr => ∃ k : Nat, k ≤ its.length ∧ i = .int .i64 k ∧ Hid (Half wr B its k) ∧ Hid (BookB wr B gb v1 v2 h its) ∧ Hid (Below B w wr)) (fun i _ _ _ => its.length - (intOf i).toNat)
  case atStart => exact ⟨0, by omega, rfl, HHF.out, HBB.out, HBE.out⟩
  case round =>
    obtain ⟨k, hk, rfl, hhf, hbb, hbe⟩ := hrel
    obtain ⟨A1, c1, e1, -⟩ := hbb.out.r1.slice
    subst e1
    have k0 := hbb.out.blk.cell 0
    rw [show (#[Value.slice A1 its.length c1, v2, Value.int .i64 h, .bool false] : Array Value)[0]? = some (.slice A1 its.length c1) from rfl] at k0
    by_cases hkn : k < its.length
    · have qk : (k : Int) < its.length := by omega
      obtain ⟨g1, o1, d1, cur1, e1, -⟩ := hbb.out.r1.form (by omega)
      injection e1 with e1 _ e2
      subst e1 e2
      obtain ⟨it, hit⟩ : ∃ it, its[k]? = some it := ⟨_, List.getElem?_eq_getElem hkn⟩
      obtain ⟨g, n, cap, C, hge, ev, gb0, lC, hcm, hnc⟩ := (hhf.out k it hit).2 (Nat.le_refl _)
      have HGE := Lib.hid hge
      clear hge
      have m0 := hbb.out.cells hit
      rw [ev] at m0
      unfold maxLen at hcm
      obtain ⟨S, HS⟩ : ∃ S : World → Prop, Hid (∀ w', S w' = (w'.cell? ⟨gb, 0, none⟩ = some (.slice (some ⟨g1, o1, none⟩) its.length c1) ∧ w'.cell? ⟨g1, o1 + k, none⟩ = some (.slice (some ⟨g, 0, none⟩) n cap))) := ⟨_, fun _ => rfl⟩
      have HIT := Lib.hid hit
      have HEV := Lib.hid ev
      have HGB := Lib.hid gb0
      have HLC := Lib.hid lC
      clear hit ev gb0 lC
      go_wp2_with fail
      refine wp_region_seq S 17 [(0, false), (1, false), (2, false), (3, false), (4, false), (5, false), (6, false), (7, false), (8, false), (9, false), (10, false), (11, false), (12, false), (13, false), (14, false), (15, false), (16, false)] (by kernel_rfl) rfl (by kernel_rfl) (by kernel_rfl) (by kernel_rfl) (fun _ _ d _ _ h => by cases d <;> exact h) ((HS.out _).mpr ⟨by simpa using k0, by simpa using m0⟩) ?_
      iterate 17 (refine wpSeq_read rfl rfl ⟨?_, fun w1 hS => ?_, ?_⟩; rotate_left; (focus (rw [HS.out] at hS; obtain ⟨h0, h1⟩ := hS; go_simp; try rfl)); simp only [Act.put, List.setIfInBounds_toArray, List.set_cons_zero, List.set_cons_succ])
      refine wpSeq_nil ?_
      obtain ⟨wo, hwo⟩ : ∃ x, x = wr.drew := ⟨_, rfl⟩
      rw [← hwo]
      have gbo : Blk wo g 37 C.toArray := by rw [hwo]; exact HGB.out.drew
      have bbo : BookB wo B gb (.slice (some ⟨g1, o1, none⟩) its.length c1) v2 h its := by rw [hwo]; exact hbb.out.call (Below.refl _ _).drew
      have hfo : Half wo B its k := by rw [hwo]; exact hhf.out.call (Below.refl _ _).drew
      have beo : Below B w wo := by rw [hwo]; exact hbe.out.drew
      have GBO := Lib.hid gbo
      have BBO := Lib.hid bbo
      have HFO := Lib.hid hfo
      have BEO := Lib.hid beo
      have lgo : B ≤ wo.heap.size := Nat.le_trans bbo.le (Nat.le_of_lt bbo.blk.lt)
      clear gbo bbo hfo beo hwo HS m0 k0
      go_wp2_with fail
      go_loopw [7] (fun j w2 => ∃ (m : Nat) (D : List Value), m ≤ cap ∧ j = .int .i64 m ∧ D.length = cap * 2 ∧ Hid (Blk w2 g 37 D.toArray) ∧ Hid (D.take (m * 2) = markRow k m) ∧ Hid (wo.grownBy w2 (some g))) (fun j _ => cap - (intOf j).toNat)
      case atStart => exact ⟨0, C, by omega, rfl, HLC.out, GBO.out, Lib.hid (by simp [markRow, cavv]), World.grownBy.refl _ _⟩
      case round =>
        obtain ⟨m, D, hm, rfl, hDl, hD, hDt, hg2⟩ := hrel
        by_cases hmc : m < cap
        · have qm : (m : Int) < cap := by omega
          have HDL := Lib.hid hDl
          clear hDl
          go_wp2_with fail
          refine (law_mark k m wr (by omega) (by omega)).mono ?_
          rintro e w3 ⟨rfl, b3⟩
          have hD3 := hD.out.below b3 hD.out.lt
          have hth := there_blk hD3 (m * 2) 2 (by rw [HDL.out]; omega)
          obtain ⟨K, hK⟩ : ∃ K, markv k m = K := ⟨_, rfl⟩
          rw [hK]
          have HTH := Lib.hid hth
          have HK := Lib.hid hK
          have HB3 := Lib.hid b3
          have HD3 := Lib.hid hD3
          clear hth hK b3 hD3
          go_wp2_with (refine wpList_store_mid rfl 37 (.tmp 51) (.tmp 50) rfl g (m * 2) #[.int .i64 K.1, .int .u32 (K.2 : Int)] rfl rfl HTH.out (by kernel_rfl) (cav_one K) ?_)
          go_roundw
          case rel =>
            have hb := blk_set2 (o := m * 2) (a := .int .i64 K.1) (b := .int .u32 (K.2 : Int)) HD3.out
            have ht := marked_step (i := k) HDL.out hmc hDt.out
            rw [HK.out] at ht
            exact ⟨m + 1, _, by omega, by go_num, by rw [List.length_set, List.length_set]; exact HDL.out, hb, ht, only_trans (only_trans hg2.out (⟨HB3.out.os, HB3.out.tape, HB3.out.output, HB3.out.size, fun k hk _ => HB3.out.block k hk⟩ : wr.grownBy w3 none) (fun d hd => by cases hd)) (grown_setCells g _ (m * 2) w3) (fun d hd => .inl (by injection hd with hd; exact hd.symm))⟩
          case measure => simp [intOf]; omega
        · have qm : ¬ (m : Int) < cap := by omega
          have em : m = cap := by omega
          have hDD : D = markRow k cap := by
            have := hDt.out
            rw [em, List.take_of_length_le (by omega)] at this
            exact this
          have HHN := Lib.hid (HFO.out.step HIT.out HND.out HEV.out hg2.out (by rw [← hDD]; exact hD.out) (by simp only [maxLen]; omega) hnc)
          have HBN := Lib.hid (BBO.out.grown hg2.out GBO.out)
          have HEN := Lib.hid (BEO.out.trans (below_of_grown hg2.out lgo (fun g' e => by injection e with e; rw [← e]; exact HGE.out)))
          clear hDD em
          go_wp2_with fail
          go_roundw
          case rel => exact ⟨k + 1, by omega, by go_num, HHN.out, HBN.out, HEN.out⟩
          case measure => simp [intOf]; omega
    · have qk : ¬ (k : Int) < its.length := by omega
      have hmk : ∀ j it, its[j]? = some it → Marked wr j it := fun j it hj => (hhf.out j it hj).1 (by
        have := (List.getElem?_eq_some_iff.1 hj).1
        omega)
      have HMK := Lib.hid hmk
      clear hmk
      go_wp2_with fail
      obtain ⟨wo, rfl⟩ : ∃ y, y = wr := ⟨_, rfl⟩
      go_loopw [8, 9, 10] (fun i _ _ w2 => ∃ m : Nat, m ≤ its.length ∧ i = .int .i64 m ∧ Hid (Below wo.heap.size wo w2)) (fun i _ _ _ => its.length - (intOf i).toNat)
      case atStart => exact ⟨0, by omega, rfl, Below.refl _ _⟩
      case round =>
        obtain ⟨m, hm, rfl, hb2⟩ := hrel
        have bb2 := hbb.out.call hb2.out
        have k0 := bb2.blk.cell 0
        rw [show (#[Value.slice A1 its.length c1, v2, Value.int .i64 h, .bool false] : Array Value)[0]? = some (.slice A1 its.length c1) from rfl] at k0
        by_cases hmn : m < its.length
        · have qm : (m : Int) < its.length := by omega
          obtain ⟨g1, o1, d1, cur1, e1, -⟩ := hbb.out.r1.form (by omega)
          injection e1 with e1 _ e2
          subst e1 e2
          obtain ⟨it, hit⟩ : ∃ it, its[m]? = some it := ⟨_, List.getElem?_eq_getElem hmn⟩
          obtain ⟨g, n, cap, ev, gb0, hcm, hnc⟩ := (HMK.out m it hit).call hb2.out
          have m0 := bb2.cells hit
          rw [ev] at m0
          unfold maxLen at hcm
          obtain ⟨S, HS⟩ : ∃ S : World → Prop, Hid (∀ w', S w' = (w'.cell? ⟨gb, 0, none⟩ = some (.slice (some ⟨g1, o1, none⟩) its.length c1) ∧ w'.cell? ⟨g1, o1 + m, none⟩ = some (.slice (some ⟨g, 0, none⟩) n cap))) := ⟨_, fun _ => rfl⟩
          have HGB := Lib.hid gb0
          clear hit ev gb0 bb2
          go_wp2_with fail
          refine wp_region_seq S 17 [(0, false), (1, false), (2, false), (3, false), (4, false), (5, false), (6, false), (7, false), (8, false), (9, false), (10, false), (11, false), (12, false), (13, false), (14, false), (15, false), (16, false)] (by kernel_rfl) rfl (by kernel_rfl) (by kernel_rfl) (by kernel_rfl) (fun _ _ d _ _ h => by cases d <;> exact h) ((HS.out _).mpr ⟨by simpa using k0, by simpa using m0⟩) ?_
          iterate 17 (refine wpSeq_read rfl rfl ⟨?_, fun w1 hS => ?_, ?_⟩; rotate_left; (focus (rw [HS.out] at hS; obtain ⟨h0, h1⟩ := hS; go_simp; try rfl)); simp only [Act.put, List.setIfInBounds_toArray, List.set_cons_zero, List.set_cons_succ])
          refine wpSeq_nil ?_
          obtain ⟨wq, hwq⟩ : ∃ x, x = wr.drew := ⟨_, rfl⟩
          rw [← hwq]
          have GBQ := Lib.hid (show Blk wq g 37 (markRow m cap).toArray by rw [hwq]; exact HGB.out.drew)
          have HB3 := Lib.hid (show Below wo.heap.size wo wq by rw [hwq]; exact hb2.out.drew)
          clear hwq HS m0 k0 HGB
          go_wp2_with fail
          go_loopw [10] (fun j w3 => ∃ q : Nat, q ≤ cap ∧ j = .int .i64 q ∧ Hid (Below wq.heap.size wq w3)) (fun j _ => cap - (intOf j).toNat)
          case atStart => exact ⟨0, by omega, rfl, Below.refl _ _⟩
          case round =>
            obtain ⟨q, hq, rfl, hb4⟩ := hrel
            by_cases hqc : q < cap
            · have qq : (q : Int) < cap := by omega
              have gq := GBQ.out.below hb4.out GBQ.out.lt
              obtain ⟨e0, e1⟩ := cavv_at ((List.range cap).map (markv m)) q (markv m q) (by simp [hqc])
              obtain ⟨S, HS⟩ : ∃ S : World → Prop, Hid (∀ w', S w' = Below wr.heap.size wr w') := ⟨_, fun _ => rfl⟩
              obtain ⟨K, hK⟩ : ∃ K, markv m q = K := ⟨_, rfl⟩
              have LM := law_mark m q wr.drew (by omega) (by omega)
              rw [hK] at e0 e1 LM
              have FC : Hid (∀ w', S w' → w'.rangeAt g (q * 2) [.int .i64 K.1, .int .u32 (K.2 : Int)]) := fun w' h j u hu => by
                rw [HS.out] at h
                rw [(gq.below h gq.lt).cell, List.getElem?_toArray]
                match j, hu with
                | 0, hu => simp at hu; subst hu; exact e0
                | 1, hu => simp at hu; subst hu; exact e1
              have HIC := Lib.hid (show (Tryd.prog.info? 37).map (·.size) = some [Value.int .i64 K.1, .int .u32 (K.2 : Int)].length by kernel_rfl)
              have HLM := Lib.hid LM
              clear e0 e1 LM hK gq
              go_wp2_with fail
              refine wp_region_seq S 9 [(0, false), (1, false), (2, false), (3, false), (4, false), (5, false), (6, false), (7, true), (8, false)] (by kernel_rfl) rfl (by kernel_rfl) (by kernel_rfl) (by kernel_rfl) (fun _ _ d _ _ h => by cases d <;> exact h) ((HS.out _).mpr (Below.refl _ wr).drew) ?_
              iterate 3 (refine wpSeq_read rfl rfl ⟨?_, fun w1 hS => ?_, ?_⟩; rotate_left; (focus (go_simp; (try go_bits); try rfl)); simp only [Act.put, List.setIfInBounds_toArray, List.set_cons_zero, List.set_cons_succ])
              refine wpSeq_load rfl rfl 37 (.tmp 85) rfl g (q * 2) rfl [.int .i64 K.1, .int .u32 (K.2 : Int)] _ FC.out Tryd.underlying37 rfl HIC.out ?_
              try simp only [Act.put, List.setIfInBounds_toArray, List.set_cons_zero, List.set_cons_succ]
              iterate 3 (refine wpSeq_read rfl rfl ⟨?_, fun w1 hS => ?_, ?_⟩; rotate_left; (focus (go_simp; (try go_bits); try rfl)); simp only [Act.put, List.setIfInBounds_toArray, List.set_cons_zero, List.set_cons_succ])
              refine wpSeq_write rfl rfl ?_
              go_simp
              refine HLM.out.mono ?_
              rintro e w5 ⟨rfl, b5⟩
              have b5' : Below wr.heap.size wr w5 := ⟨b5.os, b5.tape, b5.output, b5.size, b5.block⟩
              have HB5 := Lib.hid b5'
              refine ⟨by first | exact (HS.out _).mpr b5' | exact fun _ => (HS.out _).mpr b5', ?_⟩
              clear b5 b5'
              try simp only [Act.put, List.setIfInBounds_toArray, List.set_cons_zero, List.set_cons_succ]
              refine wpSeq_read rfl rfl ⟨.bool false, fun w1 hS => by go_simp, ?_⟩
              try simp only [Act.put, List.setIfInBounds_toArray, List.set_cons_zero, List.set_cons_succ]
              refine wpSeq_nil ?_
              go_wp2_with fail
              go_roundw
              case rel => exact ⟨q + 1, by omega, by go_num, hb4.out.trans (HB5.out.mono hb4.out.size)⟩
              case measure => simp [intOf]; omega
            · have qq : ¬ (q : Int) < cap := by omega
              go_wp2_with fail
              go_roundw
              case rel => exact ⟨m + 1, by omega, by go_num, HB3.out.trans (hb4.out.mono HB3.out.size)⟩
              case measure => simp [intOf]; omega
        · have qm : ¬ (m : Int) < its.length := by omega
          have k1 := bb2.blk.cell 1
          have k2 := bb2.blk.cell 2
          have f0 := bb2.blk.frozen 0
          have f1 := bb2.blk.frozen 1
          have f2 := bb2.blk.frozen 2
          rw [show (#[Value.slice A1 its.length c1, v2, Value.int .i64 h, .bool false] : Array Value)[1]? = some v2 from rfl] at k1
          rw [show (#[Value.slice A1 its.length c1, v2, Value.int .i64 h, .bool false] : Array Value)[2]? = some (.int .i64 h) from rfl] at k2
          have HLE := Lib.hid bb2.le
          have HBZ := Lib.hid (hbe.out.trans (hb2.out.mono (Nat.le_trans hbb.out.le (Nat.le_of_lt hbb.out.blk.lt))))
          clear bb2
          go_wp2_with fail
          go_ret
          exact ⟨rfl, ((HBZ.out.setCell HLE.out _).setCell HLE.out _).setCell HLE.out _⟩

end Go.Proofs.YtamhggndcegndaaDoor
