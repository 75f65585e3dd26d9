/-
  deponentref12: a token as bytes.
-/
import Derived.Test.YtamhggndcegndaaDoorRef2
import Derived.Test.YtamhggndcegndaaDoorTok
namespace Go.Proofs.YtamhggndcegndaaDoor
open Go.RowKit
set_option linter.unusedVariables false

theorem ref12_kind (k : Int) (w : World) :
    Calls Tryd.prog 46 #[.int .i64 k] w fun e w' => e = .returned (.bool (kindB k)) ∧ w = w' := by
  go_enter Tryd.func46, Tryd.ntmps46
  go_wp2
  all_goals
    go_ret
    refine ⟨?_, rfl⟩
    exact ret_bool' (by rw [Bool.eq_iff_iff]; simp_all [kindB]; try omega)

theorem tokRes_tag (id : Nat) (l : List (Int × Nat)) (tag : List Nat) (h4 : ¬ 4 < l.length) (h : l.all (fun c => kindB c.1) = true) : tokRes id l tag = (0, be id 4 ++ be l.length 1 ++ cavb l ++ tag) := by
  unfold tokRes
  rw [if_neg h4, if_pos h]

theorem be_one (n : Nat) : be n 1 = [n % 256] := by simp [be, byteAt]

set_option maxHeartbeats 1600000 in
theorem ref12_encode (id : Nat) (l : List (Int × Nat)) (A : Option Addr) (c : Nat) (tag : List Nat) (w : World) (hr : Reads w w.heap.size 2 A l.length (cavv l)) (hlc : l.length ≤ c) (hc : c ≤ maxLen) (hid : id < 4294967296) (hln : ∀ x ∈ l, x.2 < 4294967296) (ht : tag.length = 32) :
    Calls Tryd.prog 29 #[.agg (tokv id (.slice A l.length c) tag).toArray] w fun e w' => ∃ v, e = .returned (.tuple #[v, .int .i64 ((tokRes id l tag).1 : Int)]) ∧ OwnB w' w.heap.size v (tokRes id l tag).2 ∧ Below w.heap.size w w' := by
  unfold maxLen at hc
  obtain ⟨D, hD⟩ : ∃ D, (tokv id (.slice A l.length c) tag).toArray = D := ⟨_, rfl⟩
  have d0 : D[0]? = some (.int .u32 (id : Int)) := by rw [← hD]; rfl
  have d1 : D[1]? = some (.slice A l.length c) := by rw [← hD]; rfl
  have dt : ∀ j u, (byv tag)[j]? = some u → D[2 + j]? = some u := by
    intro j u h
    rw [← hD, List.getElem?_toArray, tokv, show 2 + j = (j + 1) + 1 from by omega, List.getElem?_cons_succ, List.getElem?_cons_succ]
    exact h
  rw [hD]
  have DT := Lib.hid dt
  have HLN := Lib.hid hln
  clear hD dt hln
  by_cases h4 : 4 < l.length
  · have H : Hid (tokRes id l tag = (4, [])) := by unfold Hid tokRes; rw [if_pos h4]
    go_enter Tryd.func29, Tryd.ntmps29
    go_wp2
    go_ret2
    exact ⟨_, by rw [H.out]; rfl, by rw [H.out]; exact OwnB.nil _ _, (Below.refl _ _).alloc (Nat.le_refl _) _⟩
  · have Ha : Hid (tokRes id l tag = if l.all fun c => kindB c.1 then (0, be id 4 ++ be l.length 1 ++ cavb l ++ tag) else (1, [])) := by unfold Hid tokRes; rw [if_neg h4]
    have t0 : Blk (w.alloc (.cells D 30)) w.heap.size 30 D := Blk.new w _ D
    go_enter Tryd.func29, Tryd.ntmps29
    go_wp2_with fail
    refine (ref2_number none 0 0 id 4 [] _ Reads.none_ (by simp) (by omega)).mono ?_
    rintro e w1 ⟨v1, rfl, hown1, hb1⟩
    simp only [alloc_size] at hown1 hb1
    have B1 : Below w.heap.size w w1 := ((Below.refl _ _).alloc (Nat.le_refl _) _).trans (hb1.mono (by omega))
    have t1 := t0.below hb1 (by omega)
    have hr1 := (hr.alloc (Nat.le_refl _) (.cells D 30)).below (hb1.mono (by omega))
    rw [List.nil_append, show sizeN 4 = 4 from rfl] at hown1
    have c0 := t1.cell 0
    have c1 := t1.cell 1
    rw [d0] at c0
    rw [d1] at c1
    clear hb1 hr t0
    have := t1.lt
    have hlm : ((l.length : Nat) : Int) % 256 = ((l.length % 256 : Nat) : Int) := rfl
    go_wp2_with (at_builtin; refine append_bytes rfl (.tmp 14) (.tmp 19) rfl (w.heap.size + 1) _ _ rfl (hown1.alloc _) _ 1 1 [l.length] rfl (reads_one w1 l.length) (by first | omega | (simp only [List.length_append, List.length_cons, List.length_nil, List.length_take, be_length] <;> omega)) (by first | omega | (simp only [alloc_size] <;> omega)) ?_)
    intro v2 w2 hown2 hb2 hg2
    have ebl : [l.length] = be l.length 1 := by rw [be_one, Nat.mod_eq_of_lt (by omega)]
    rw [ebl] at hown2
    have t2 := (t1.alloc (.cells #[.int .u8 (l.length : Int)] 5)).below hb2 (by omega)
    have hr2 := (hr1.alloc (by omega) (.cells #[.int .u8 (l.length : Int)] 5)).below (hb2.mono (by omega))
    have B2 := (B1.alloc (by omega) (.cells #[.int .u8 (l.length : Int)] 5)).trans (hb2.mono (by omega))
    clear hg2 hb2 hown1 hr1 t1 c0 c1 hlm ebl B1
    have hsz2 := t2.lt
    go_wp2
    go_loopw [4, 5] (fun b i wr => ∃ k : Nat, k ≤ l.length ∧ i = .int .i64 k ∧ (l.take k).all (fun c => kindB c.1) = true ∧ OwnB wr (w.heap.size + 1) b (be id 4 ++ be l.length 1 ++ cavb (l.take k)) ∧ Below (w.heap.size + 1) w2 wr) (fun _ i _ => l.length - (intOf i).toNat)
    case atStart => exact ⟨0, by omega, rfl, by simp, by simpa [cavb] using hown2, Below.refl _ _⟩
    case round =>
      obtain ⟨k, hk, rfl, hall, hown, hbr⟩ := hrel
      have tr := t2.below hbr (by omega)
      have hrr := hr2.below (hbr.mono (by omega))
      have Hall := Lib.hid hall
      have hszr := hbr.size
      have hszr' : w.heap.size + 1 ≤ wr.heap.size := by omega
      clear hall t2 hr2 hown2
      have c1 := tr.cell 1
      rw [d1] at c1
      by_cases hlt : k < l.length
      · have hx : l[k]? = some l[k] := List.getElem?_eq_getElem hlt
        obtain ⟨x, hxe⟩ : ∃ x, l[k] = x := ⟨_, rfl⟩
        rw [hxe] at hx
        clear hxe
        obtain ⟨q0, q1⟩ := cavv_at l k x hx
        obtain ⟨b, o, rfl, hab, hcell⟩ := hrr.mid (by omega) (by omega)
        have m0 := hcell _ _ q0
        have m1 := hcell _ _ q1
        rw [← Nat.add_assoc] at m1
        have Hx := Lib.hid hx
        clear hx q0 q1 hcell
        go_wp2_with fail
        refine (ref12_kind _ _).mono ?_
        rintro e w' ⟨rfl, rfl⟩
        cases hkb : kindB x.1 with
        | true =>
          obtain ⟨k1, k3⟩ := kindB_bd hkb
          obtain ⟨kd, hkd⟩ : ∃ kd : Nat, x.1 = (kd : Int) := ⟨x.1.toNat, by omega⟩
          have hxn := HLN.out x (List.mem_of_getElem? Hx.out)
          rw [hkd] at k1 k3 m0
          have hcv : IntKind.u8.wrap (kd : Int) = kd := IntWalk.u8_in _ (by omega)
          have hcw : IntKind.u64.wrap (x.2 : Int) = x.2 := IntWalk.u64_in _ (by omega)
          go_wp2_with fail
          obtain ⟨S, HS⟩ : ∃ S : World → Prop, Hid (∀ w', S w' = (w'.cell? ⟨w.heap.size, 1, none⟩ = some (.slice (some ⟨b, o, none⟩) l.length c) ∧ w'.cell? ⟨b, o + k * 2, none⟩ = some (.int .i64 kd) ∧ w'.cell? ⟨b, o + k * 2 + 1, none⟩ = some (.int .u32 (x.2 : Int)))) := ⟨_, fun _ => rfl⟩
          refine wp_region_seq S 19 [(0, false), (1, false), (2, false), (3, false), (4, false), (5, false), (6, false), (7, false), (10, false), (11, false), (12, false), (13, false), (14, false), (15, false), (16, false), (8, true), (9, true), (17, true), (18, false)] (by kernel_rfl) rfl (by kernel_rfl) (by kernel_rfl) (by kernel_rfl) (fun _ _ d _ _ h => by cases d <;> exact h) ((HS.out _).mpr ⟨c1, m0, m1⟩) ?_
          repeat (refine wpSeq_read rfl rfl ⟨?_, fun w1 hS => ?_, ?_⟩; rotate_left; (focus (rw [HS.out] at hS; go_split_ands; go_simp; (try go_bits); try rfl)); simp only [Act.put, List.setIfInBounds_toArray, List.set_cons_zero, List.set_cons_succ])
          refine wpSeq_write rfl rfl ?_
          go_simp
          refine ⟨(HS.out _).mpr ⟨cell_new c1 _, cell_new m0 _, cell_new m1 _⟩, ?_⟩
          refine wpSeq_write rfl rfl ?_
          have hkb8 : b < (wr.alloc (.cells #[.int .u8 (kd : Int)] 5)).heap.size := by rw [alloc_size]; omega
          refine wp_append_bytes (.tmp 36) (.tmp 44) rfl (w.heap.size + 1) _ _ rfl (hown.alloc (.cells #[.int .u8 (kd : Int)] 5)).drew _ 1 1 [kd] rfl (reads_one wr kd).drewS (by have := cavb_len (l.take k); simp only [List.length_append, be_length, List.length_take] at *; omega) (by rw [drew_size, alloc_size]; omega) ?_
          intro v3 w3 hown3 hb3 hg3
          have hb3' : Below (w.heap.size + 1) wr w3 := ((Below.refl _ _).alloc hszr' _).drew.trans hb3
          have n1 := (hb3'.cell (p := ⟨w.heap.size, 1, none⟩) (by simp)).trans c1
          have n0 := (hb3'.cell (p := ⟨b, o + k * 2, none⟩) (by simp; omega)).trans m0
          have n2 := (hb3'.cell (p := ⟨b, o + k * 2 + 1, none⟩) (by simp; omega)).trans m1
          refine ⟨fun _ => (HS.out _).mpr ⟨n1, n0, n2⟩, ?_⟩
          simp only [Act.put, List.setIfInBounds_toArray, List.set_cons_zero, List.set_cons_succ]
          obtain ⟨A3, n3, c3, rfl, hl3, hm3, hr3⟩ := hown3.sl
          refine wpSeq_write rfl rfl ?_
          go_simp
          refine (ref2_number A3 n3 c3 x.2 4 _ _ hr3 (by have := cavb_len (l.take k); simp only [List.length_append, be_length, List.length_take, List.length_cons, List.length_nil] at *; omega) (by omega)).mono ?_
          rintro e w4 ⟨v4, rfl, hown4, hb4⟩
          have p1 := cell_call n1 hb4
          have p0 := cell_call n0 hb4
          have p2 := cell_call n2 hb4
          refine ⟨by first | exact (HS.out _).mpr ⟨p1, p0, p2⟩ | exact fun _ => (HS.out _).mpr ⟨p1, p0, p2⟩, ?_⟩
          repeat (refine wpSeq_read rfl rfl ⟨?_, fun w1 hS => ?_, ?_⟩; rotate_left; (focus (rw [HS.out] at hS; go_split_ands; go_simp; (try go_bits); try rfl)); simp only [Act.put, List.setIfInBounds_toArray, List.set_cons_zero, List.set_cons_succ])
          refine wpSeq_nil ?_
          have HO : Hid (OwnB w4 (w.heap.size + 1) v4 (be id 4 ++ be l.length 1 ++ cavb (l.take (k + 1)))) := by
            have e1 : x.1.toNat = kd := by omega
            rw [cavb_take l k x Hx.out, ← List.append_assoc, ← List.append_assoc, e1, be_one kd, Nat.mod_eq_of_lt (by omega)]
            exact hown4.mono (by have := hb3'.size; omega)
          have HB := Lib.hid (hbr.trans (hb3'.trans (hb4.mono (by have := hb3'.size; omega))))
          have hka : (l.take (k + 1)).all (fun c => kindB c.1) = true := by
            rw [List.take_add_one, Hx.out, List.all_append, Hall.out]
            simpa using hkb
          have Hka := Lib.hid hka
          clear p0 p1 p2 n0 n1 n2 hown4 hb4 hown3 hb3 hg3 hb3' hown hbr tr hrr c1 m0 m1 HS hka hkb hcv hcw
          go_wp2
          go_roundw
          case rel => exact ⟨k + 1, by omega, by go_num, Hka.out, HO.out, HB.out⟩
          case measure => simp [intOf]; omega
        | false =>
          have H : Hid (tokRes id l tag = (1, [])) := by
            unfold Hid
            rw [Ha.out, if_neg]
            intro h
            have := List.all_eq_true.1 h x (List.mem_of_getElem? Hx.out)
            rw [hkb] at this
            cases this
          have HB := Lib.hid (B2.trans (hbr.mono (by omega)))
          go_wp2
          go_ret2
          exact ⟨_, by rw [H.out]; rfl, by rw [H.out]; exact OwnB.nil _ _, HB.out⟩
      · obtain rfl : k = l.length := by omega
        rw [List.take_length] at hown
        have H : Hid (tokRes id l tag = (0, be id 4 ++ be l.length 1 ++ cavb l ++ tag)) := tokRes_tag id l tag h4 (by simpa using Hall.out)
        have hrt : Reads wr wr.heap.size 1 (some ⟨w.heap.size, 2, none⟩) 32 (byv tag) := by
          refine ⟨by rw [byv_length, ht], fun _ => ⟨_, rfl, tr.lt, fun j u hu => ?_⟩⟩
          rw [Addr.add_mid, tr.cell (2 + j)]
          exact DT.out j u hu
        go_wp2_with (at_builtin; refine append_bytes rfl (.tmp 54) (.tmp 56) rfl (w.heap.size + 1) _ _ rfl hown _ 32 32 tag rfl hrt (by have := cavb_len l; simp only [List.length_append, be_length] at *; omega) (by omega) ?_)
        intro v3 w3 hown3 hb3 hg3
        have HO := Lib.hid (hown3.mono (show w.heap.size ≤ w.heap.size + 1 by omega))
        have HB := Lib.hid ((B2.trans (hbr.mono (by omega))).trans (hb3.mono (by omega)))
        clear hown3 hb3 hg3 hown hbr tr hrr c1 hrt
        go_wp2
        go_ret2
        exact ⟨_, by rw [H.out]; rfl, by rw [H.out]; simpa [List.append_assoc] using HO.out, HB.out⟩

end Go.Proofs.YtamhggndcegndaaDoor
