/-
  token: kinds, caveats and tokens as bytes: contracts of token.kind, token.caveat, token.Encode.
-/
import Derived.Test.YtamhggndcegndaaDoorCodec
import Derived.Deep.MidRow
namespace Go.Proofs.YtamhggndcegndaaDoor
open Go.RowKit
set_option linter.unusedVariables false

def kindB (k : Int) : Bool := k == 1 || k == 2 || k == 3

theorem kindB_bd {k : Int} (h : kindB k = true) : 1 ≤ k ∧ k ≤ 3 := by simp [kindB] at h; omega

/-- Caveats as cells. -/
def cavv (l : List (Int × Nat)) : List Value := l.flatMap fun c => [Value.int .i64 c.1, Value.int .u32 (c.2 : Int)]

/-- Caveats as bytes. -/
def cavb (l : List (Int × Nat)) : List Nat := l.flatMap fun c => be c.1.toNat 1 ++ be c.2 4

/-- What token.Encode answers: the number of the refusal, the bytes. -/
def tokRes (id : Nat) (l : List (Int × Nat)) (tag : List Nat) : Nat × List Nat :=
  if 4 < l.length then (4, []) else if l.all fun c => kindB c.1 then (0, be id 4 ++ be l.length 1 ++ cavb l ++ tag) else (1, [])

/-- A token's cells. -/
def tokv (id : Nat) (s : Value) (tag : List Nat) : List Value := Value.int .u32 (id : Int) :: s :: byv tag

theorem ret_bool' {a b : Bool} (h : a = b) : Ending.returned (.bool a) = .returned (.bool b) := by rw [h]

theorem token_kind (k : Int) (w : World) :
    Calls Tryd.prog 41 #[.int .i64 k] w fun e w' => e = .returned (.bool (kindB k)) ∧ w = w' := by
  go_enter Tryd.func41, Tryd.ntmps41
  go_wp2
  all_goals
    go_ret
    refine ⟨?_, rfl⟩
    exact ret_bool' (by simp_all [kindB])

theorem token_caveat (B g : Nat) (bs : List Nat) (k : Int) (n : Nat) (w : World) (hw : Wri w B g bs) (hl : bs.length ≤ 4294967000) (k1 : 1 ≤ k) (k3 : k ≤ 3) (hn : n < 4294967296) :
    Calls Tryd.prog 42 #[.pointer (some ⟨g, 0, none⟩), .agg #[.int .i64 k, .int .u32 n]] w fun e w' => e = .returned (.tuple #[]) ∧ Wri w' B g (bs ++ (be k.toNat 1 ++ be n 4)) ∧ Below B w w' ∧ NB w w' g := by
  obtain ⟨m, rfl⟩ := Int.eq_ofNat_of_zero_le (by omega : 0 ≤ k)
  have hB : B ≤ w.heap.size := by obtain ⟨v, hg, hB, _⟩ := hw; have := hg.lt; omega
  have hgl : g < w.heap.size := by obtain ⟨v, hg, _⟩ := hw; exact hg.lt
  have hw0 : Wri (w.alloc (.cells #[.int .i64 m, .int .u32 n] 37)) B g bs := hw.kept_call ((Below.refl _ _).alloc (Nat.le_refl _) _)
  have hb0 : Below B w (w.alloc (.cells #[.int .i64 m, .int .u32 n] 37)) := (Below.refl _ _).alloc hB _
  have hn0 : NB w (w.alloc (.cells #[.int .i64 m, .int .u32 n] 37)) g := (NB.refl w g).alloc _
  go_enter Tryd.func42, Tryd.ntmps42
  go_wp2_with fail
  refine (writer_number B g m 1 bs _ hw0 (by omega) (by omega)).mono ?_
  rintro e w1 ⟨rfl, hw1, hb1, hn1⟩
  have hL := hn1.blk (Blk.new w 37 #[.int .i64 m, .int .u32 n]) (by decide) (by omega)
  have hc1 := hL.cell 1
  simp at hc1
  have e1 : sizeN 1 = 1 := rfl
  have e4 : sizeN 4 = 4 := rfl
  rw [e1] at hw1
  clear hw0 hL e1
  go_wp2_with fail
  refine (writer_number B g n 4 (bs ++ be m 1) _ hw1 (by omega) (by rw [List.length_append, be_length]; omega)).mono ?_
  rintro e w2 ⟨rfl, hw2, hb2, hn2⟩
  rw [e4, List.append_assoc] at hw2
  clear e4
  go_wp2
  go_end0
  exact ⟨rfl, by simpa using hw2, (hb0.trans hb1).trans hb2, (hn0.trans hn1).trans hn2⟩

theorem own_mono {w : World} {base base' : Nat} {e : TypeId} {size n : Nat} {v : Value} {xs : List Value} (h : w.ownsRow base' e size v n xs) (hb : base ≤ base') : w.ownsRow base e size v n xs := by
  refine ⟨h.1, ?_⟩
  rcases h.2 with h | ⟨g, cap, cur, hv, hg, rest⟩
  · exact .inl h
  · exact .inr ⟨g, cap, cur, hv, Nat.le_trans hb hg, rest⟩

theorem tokv_len (id : Nat) (s : Value) (tag : List Nat) (h : tag.length = 32) : (tokv id s tag).length = 34 := by simp [tokv, byv, h]

theorem cavb_take (l : List (Int × Nat)) (k : Nat) (x : Int × Nat) (h : l[k]? = some x) : cavb (l.take (k + 1)) = cavb (l.take k) ++ (be x.1.toNat 1 ++ be x.2 4) := by
  rw [List.take_add_one, h]
  simp [cavb]

theorem cavb_len (l : List (Int × Nat)) : (cavb l).length = 5 * l.length := by
  unfold cavb
  induction l with
  | nil => rfl
  | cons x l ih => simp only [List.flatMap_cons, List.length_append, be_length, ih, List.length_cons]; omega

theorem cavv_at (l : List (Int × Nat)) (k : Nat) (x : Int × Nat) (h : l[k]? = some x) : (cavv l)[k * 2]? = some (.int .i64 x.1) ∧ (cavv l)[k * 2 + 1]? = some (.int .u32 (x.2 : Int)) := by
  unfold cavv
  induction l generalizing k with
  | nil => simp at h
  | cons y l ih =>
    cases k with
    | zero => simp at h; subst h; simp
    | succ k =>
      have := ih k (by simpa using h)
      rw [show (k + 1) * 2 = k * 2 + 2 from by omega]
      simpa [List.getElem?_append] using this

theorem Tryd.digest_info : (Tryd.prog.info? 28).map (·.size) = some 32 := by kernel_rfl

theorem token_encode (id : Nat) (l : List (Int × Nat)) (A : Option Addr) (c : Nat) (tag : List Nat) (w : World) (hr : Reads w w.heap.size 2 A l.length (cavv l)) (hlc : l.length ≤ c) (hc : c ≤ maxLen) (hid : id < 4294967296) (hln : ∀ x ∈ l, x.2 < 4294967296) (ht : tag.length = 32) :
    Calls Tryd.prog 25 #[.agg (tokv id (.slice A l.length c) tag).toArray] w fun e w' => ∃ v, e = .returned (.tuple #[v, .int .i64 ((tokRes id l tag).1 : Int)]) ∧ w'.ownsRow w.heap.size 5 1 v (tokRes id l tag).2.length (byv (tokRes id l tag).2) ∧ Below w.heap.size w w' := by
  unfold maxLen at hc
  obtain ⟨D, hD⟩ : ∃ D, (tokv id (.slice A l.length c) tag).toArray = D := ⟨_, rfl⟩
  have d0 : D[0]? = some (.int .u32 (id : Int)) := by rw [← hD]; rfl
  have d1 : D[1]? = some (.slice A l.length c) := by rw [← hD]; rfl
  have dt : D.extract 2 (2 + 32) = (byv tag).toArray := by
    rw [← hD]
    simp only [tokv, byv, List.extract_toArray, List.extract_eq_take_drop, List.drop_succ_cons, List.drop_zero]
    rw [List.take_of_length_le (by simp [ht])]
  rw [hD]
  have DT := Lib.hid dt
  have HLN := Lib.hid hln
  clear hD dt hln
  by_cases h4 : 4 < l.length
  · have H : Hid (tokRes id l tag = (4, [])) := by unfold Hid tokRes; rw [if_pos h4]
    go_enter Tryd.func25, Tryd.ntmps25
    go_wp2
    go_ret2
    exact ⟨_, by rw [H.out]; rfl, by rw [H.out]; exact World.ownsRow_nil .., (Below.refl _ _).alloc (Nat.le_refl _) _⟩
  · have Ha : Hid (tokRes id l tag = if l.all fun c => kindB c.1 then (0, be id 4 ++ be l.length 1 ++ cavb l ++ tag) else (1, [])) := by unfold Hid tokRes; rw [if_neg h4]
    have e1 : sizeN 1 = 1 := rfl
    have e4 : sizeN 4 = 4 := rfl
    go_enter Tryd.func25, Tryd.ntmps25
    go_wp2_with fail
    refine (new_writer _).mono ?_
    rintro e w1 ⟨rfl, hw1, hb1⟩
    have B1 := below_call (below_new (Below.refl w.heap.size w) (.cells D 30)) hb1
    simp at hw1 hb1
    have t1 : Blk w1 w.heap.size 30 D := (Blk.new w _ D).below hb1 (by simp)
    have hr1 := (hr.alloc (Nat.le_refl _) (.cells D 30)).below (hb1.mono (by omega))
    clear hr hb1
    have c0 := t1.cell 0
    have c1 := t1.cell 1
    rw [d0] at c0
    rw [d1] at c1
    go_wp2_with fail
    refine (writer_number _ _ id 4 [] _ hw1 (by omega) (by simp)).mono ?_
    rintro e w2 ⟨rfl, hw2, hb2, -⟩
    rw [e4, List.nil_append] at hw2
    have t2 := t1.below hb2 (by omega)
    have hr2 := hr1.below (hb2.mono (by omega))
    have c0 := t2.cell 0
    have c1 := t2.cell 1
    rw [d0] at c0
    rw [d1] at c1
    go_wp2_with fail
    refine (writer_number _ _ l.length 1 _ _ hw2 (by omega) (by rw [be_length]; omega)).mono ?_
    rintro e w3 ⟨rfl, hw3, hb3, -⟩
    rw [e1] at hw3
    clear e1 e4
    have t3 := t2.below hb3 (by omega)
    have hr3 := hr2.below (hb3.mono (by omega))
    have B3 := B1.trans ((hb2.trans hb3).mono (by omega))
    have b3 : Below (w.heap.size + 1) w1 w3 := hb2.trans hb3
    clear t1 t2 hr1 hr2 hb2 hb3 c0 c1
    have c0 := t3.cell 0
    have c1 := t3.cell 1
    rw [d0] at c0
    rw [d1] at c1
    go_wp2
    go_loopw [26] (fun i wr => ∃ k : Nat, k ≤ l.length ∧ i = .int .i64 k ∧ (l.take k).all (fun c => kindB c.1) = true ∧ Wri wr (w.heap.size + 1) (w.heap.size + 1) (be id 4 ++ be l.length 1 ++ cavb (l.take k)) ∧ Below (w.heap.size + 1) w3 wr) (fun i _ => l.length - (intOf i).toNat)
    case atStart => exact ⟨0, by omega, rfl, by simp, by simpa [cavb] using hw3, Below.refl _ _⟩
    case round =>
      obtain ⟨k, hk, rfl, hall, hwr, hbr⟩ := hrel
      have tr := t3.below hbr (by omega)
      have hrr := hr3.below (hbr.mono (by omega))
      have Hall := Lib.hid hall
      clear hall t3 hr3 c0 c1 hw3
      have c0 := tr.cell 0
      have c1 := tr.cell 1
      rw [d0] at c0
      rw [d1] at c1
      by_cases hlt : k < l.length
      · have hx : l[k]? = some l[k] := List.getElem?_eq_getElem hlt
        obtain ⟨x, hxe⟩ : ∃ x, l[k] = x := ⟨_, rfl⟩
        rw [hxe] at hx
        clear hxe
        obtain ⟨q0, q1⟩ := cavv_at l k x hx
        obtain ⟨b, o, rfl, hab, hcell⟩ := hrr.mid (by omega) (by omega)
        have m0 := hcell _ _ q0
        have m1 := hcell _ _ q1
        rw [← Nat.add_assoc] at m1
        have Hx := Lib.hid hx
        clear hx q0 q1 hcell
        go_wp2_with fail
        refine (token_kind _ _).mono ?_
        rintro e w' ⟨rfl, rfl⟩
        cases hkb : kindB x.1 with
        | true =>
          obtain ⟨k1, k3⟩ := kindB_bd hkb
          go_wp2_with fail
          have hwa := hwr.kept_call ((Below.refl _ _).alloc (Nat.le_refl _) (.cells #[.int .i64 x.1, .int .u32 (x.2 : Int)] 37))
          refine (token_caveat _ _ _ x.1 x.2 _ hwa ?_ k1 k3 (HLN.out x (List.mem_of_getElem? Hx.out))).mono ?_
          · have := cavb_len (l.take k)
            rw [List.length_append, List.length_append, be_length, be_length, this, List.length_take]
            omega
          rintro e w5 ⟨rfl, hw5, hb5, -⟩
          have hsz : w.heap.size + 1 ≤ wr.heap.size := by have := tr.lt; omega
          have hb6 := (hbr.alloc hsz (.cells #[.int .i64 x.1, .int .u32 (x.2 : Int)] 37)).trans hb5
          have HW : Hid (Wri w5 (w.heap.size + 1) (w.heap.size + 1) (be id 4 ++ be l.length 1 ++ cavb (l.take (k + 1)))) := by
            rw [cavb_take l k x Hx.out, ← List.append_assoc]
            exact hw5
          have HB := Lib.hid hb6
          clear hw5 hb5 hb6 hwa hwr hbr tr hrr c0 c1 m0 m1
          go_wp2
          go_roundw
          case rel => exact ⟨k + 1, by omega, by go_num, by
            rw [List.take_add_one, Hx.out, List.all_append, Hall.out]
            simpa using hkb, HW.out, HB.out⟩
          case measure => simp [intOf]; omega
        | false =>
          have H : Hid (tokRes id l tag = (1, [])) := by
            unfold Hid
            rw [Ha.out, if_neg]
            intro h
            have := List.all_eq_true.1 h x (List.mem_of_getElem? Hx.out)
            rw [hkb] at this
            cases this
          have hsz : w.heap.size + 1 ≤ wr.heap.size := by have := tr.lt; omega
          have HB := Lib.hid ((B3.trans (hbr.mono (by omega))).alloc (by omega : w.heap.size ≤ wr.heap.size) (.cells #[.int .i64 x.1, .int .u32 (x.2 : Int)] 37))
          go_wp2
          go_ret2
          exact ⟨_, by rw [H.out]; rfl, by rw [H.out]; exact World.ownsRow_nil .., HB.out⟩
      · obtain rfl : k = l.length := by omega
        have H : Hid (tokRes id l tag = (0, be id 4 ++ be l.length 1 ++ cavb l ++ tag)) := by
          unfold Hid
          rw [Ha.out, if_pos]
          simpa using Hall.out
        rw [List.take_length] at hwr
        have hrg : wr.rangeAt w.heap.size 2 (byv tag) := by
          have := World.rangeAt_of_block tr 2 32
          rw [DT.out] at this
          exact this
        have hln : ((Tryd.prog.info? 28).map (·.size)) = some (byv tag).length := by rw [byv_length, ht]; exact Tryd.digest_info
        have HLn := Lib.hid hln
        clear hln
        go_wp2_with (refine wpList_load_mid rfl 28 (.tmp 39) rfl w.heap.size 2 rfl (byv tag) _ hrg Tryd.underlying28 rfl HLn.out ?_)
        refine (writer_digest _ _ _ tag _ hwr ?_ ht).mono ?_
        · have := cavb_len l
          rw [List.length_append, List.length_append, be_length, be_length, this]
          omega
        rintro e w5 ⟨rfl, hw5, hb5, -⟩
        go_wp2_with fail
        refine (writer_done _ _ _ _ hw5 ?_).mono ?_
        · have := cavb_len l
          rw [List.length_append, List.length_append, List.length_append, be_length, be_length, this, ht]
          omega
        rintro e w6 ⟨v, rfl, hown6, hb6⟩
        have hsz := hb5.size
        have hsz2 : w.heap.size ≤ w5.heap.size := by have := tr.lt; omega
        have HO := Lib.hid (own_mono hown6 hsz2)
        have HB := Lib.hid ((B3.trans ((hbr.trans hb5).mono (by omega))).trans (hb6.mono hsz2))
        clear hown6 hb6 hb5 hw5 hwr hbr tr hrr c0 c1 hrg
        go_wp2
        go_ret2
        exact ⟨v, by rw [H.out]; rfl, by rw [H.out]; exact HO.out, HB.out⟩

end Go.Proofs.YtamhggndcegndaaDoor
