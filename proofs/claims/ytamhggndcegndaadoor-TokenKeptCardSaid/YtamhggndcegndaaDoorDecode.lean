/-
  token.Decode.
-/
import Derived.Test.YtamhggndcegndaaDoorReader
import Derived.Test.YtamhggndcegndaaDoorAs
import Derived.Test.YtamhggndcegndaaDoorTokB
import Derived.Deep.DeepCutAuto
import Derived.Deep.CutBlock
namespace Go.Proofs.YtamhggndcegndaaDoor
open Go.RowKit
set_option linter.unusedVariables false
set_option maxRecDepth 100000

/-- Caveats read, up to the first refusal. -/
def decCavs (bs : List Nat) : Nat → RSt → List (Int × Nat) → RSt × List (Int × Nat)
  | 0, s, l => (s, l)
  | n + 1, s, l =>
    if kindB ((rNum bs s 1).2 : Int) then decCavs bs n (rNum bs (rNum bs s 1).1 4).1 (l ++ [(((rNum bs s 1).2 : Int), (rNum bs (rNum bs s 1).1 4).2)])
    else (rRefuse (rNum bs s 1).1 (rNum bs s 1).1.1 12, l)

def decHead (bs : List Nat) (s : RSt) (n : Nat) : RSt × Nat := if 4 < n then (rRefuse s s.1 4, 0) else (s, n)

/-- A token read. -/
def decT (bs : List Nat) (s : RSt) : RSt × Tok :=
  let a := rNum bs s 4
  let b := rNum bs a.1 1
  let c := decHead bs b.1 b.2
  let d := decCavs bs c.2 c.1 []
  let f := rDig bs d.1
  (f.1, (a.2, d.2, f.2))

def tokDec (bs : List Nat) : Option (Nat × Nat) × Tok := match rEnd bs (decT bs (0, none)).1 with
  | none => (none, (decT bs (0, none)).2)
  | some x => (some x, zeroTok)

theorem adv {w w1 w2 : World} {B g : Nat} (h : Below B w w1) (k : w1.grownBy w2 (some g)) (hB : B ≤ g) (hg : g < w1.heap.size) : Below B w w2 := h.trans (below_only k hB hg)

theorem built_zero : Tryd.prog.built 30 [] = some zeroTokv.toArray := by kernel_rfl

/-- errors.As at a refusal. -/
theorem errors_as_hit (h tb : Nat) (old : Value) (w : World) (hg : w.cell? ⟨0, 0, none⟩ = some (.iface 152 (.agg #[.pointer (some ⟨3, 61, none⟩)]))) (ht : Blk w tb 101 #[old]) :
    Calls Tryd.prog 55 #[.iface 101 (.pointer (some ⟨h, 0, none⟩)), .iface 104 (.pointer (some ⟨tb, 0, none⟩))] w fun e w' => e = .returned (.bool true) ∧ Blk w' tb 101 #[.pointer (some ⟨h, 0, none⟩)] ∧ w.grownBy w' (some tb) := by
  refine (as_hit ⟨h, 0, none⟩ ⟨tb, 0, none⟩ old w hg (by simpa using ht.cell 0) (ht.frozen 0)).mono ?_
  rintro e w' ⟨rfl, rfl⟩
  refine ⟨rfl, ?_, only_setCell (only_alloc (only_alloc (only_alloc (only_alloc (World.grownBy.refl _ _) _) _) _) _) (.inl rfl) _⟩
  have := ((((ht.alloc (.cells #[.pointer (some ⟨tb, 0, none⟩)] 104)).alloc (.cells #[.pointer (some ⟨3, 104, none⟩), .pointer (some ⟨w.heap.size, 0, none⟩), .int .u64 150] 133)).alloc (.cells #[.pointer (some ⟨3, 104, none⟩), .pointer (some ⟨w.heap.size, 0, none⟩), .int .u64 150] 133)).alloc (.cells #[.pointer (some ⟨h, 0, none⟩)] 101)).set_ 0 (.pointer (some ⟨h, 0, none⟩))
  simpa using this

theorem tok_tag (id : Nat) (v : Value) (t tag : List Nat) (h : t.length = 32) (h' : tag.length = 32) : (tokv id v t).take 2 ++ (byv tag ++ (tokv id v t).drop (2 + (byv tag).length)) = tokv id v tag := by
  rw [byv_length, h', List.drop_eq_nil_of_le (by rw [tokv_len _ _ _ h]; omega)]
  simp [tokv]

theorem built_id (id : Nat) : Tryd.prog.built 30 [(0, .int .u32 id)] = some (tokv id (.slice none 0 0) (List.replicate 32 0)).toArray := by kernel_rfl

set_option maxHeartbeats 4000000 in
theorem token_decode (bs : List Nat) (A : Option Addr) (n c : Nat) (w : World) (hr : Reads w w.heap.size 1 A n (byv bs)) (hn : n ≤ 140737488355328) (hb : ∀ x ∈ bs, x < 256) (hE : w.cell? ⟨0, 0, none⟩ = some (.iface 152 (.agg #[.pointer (some ⟨3, 61, none⟩)]))) :
    Calls Tryd.prog 26 #[.slice A n c] w fun e w' => ∃ v r, e = .returned (.tuple #[.agg (tokv (tokDec bs).2.1 v (tokDec bs).2.2.2).toArray, r]) ∧ OwnC w' w.heap.size v (tokDec bs).2.2.1 ∧ RErr w' w.heap.size r (tokDec bs).1 ∧ Below w.heap.size w w' := by
  have HB := Lib.hid hb
  have r0 := Blk.new w 30 #[.int .u32 0, .slice none 0 0, .int .u8 0, .int .u8 0, .int .u8 0, .int .u8 0, .int .u8 0, .int .u8 0, .int .u8 0, .int .u8 0, .int .u8 0, .int .u8 0, .int .u8 0, .int .u8 0, .int .u8 0, .int .u8 0, .int .u8 0, .int .u8 0, .int .u8 0, .int .u8 0, .int .u8 0, .int .u8 0, .int .u8 0, .int .u8 0, .int .u8 0, .int .u8 0, .int .u8 0, .int .u8 0, .int .u8 0, .int .u8 0, .int .u8 0, .int .u8 0, .int .u8 0, .int .u8 0]
  have HE := Lib.hid hE
  have R0 := Lib.hid r0
  have HR := Lib.hid (hr.laid (.cells #[.int .u32 0, .slice none 0 0, .int .u8 0, .int .u8 0, .int .u8 0, .int .u8 0, .int .u8 0, .int .u8 0, .int .u8 0, .int .u8 0, .int .u8 0, .int .u8 0, .int .u8 0, .int .u8 0, .int .u8 0, .int .u8 0, .int .u8 0, .int .u8 0, .int .u8 0, .int .u8 0, .int .u8 0, .int .u8 0, .int .u8 0, .int .u8 0, .int .u8 0, .int .u8 0, .int .u8 0, .int .u8 0, .int .u8 0, .int .u8 0, .int .u8 0, .int .u8 0, .int .u8 0, .int .u8 0] 30))
  clear hE r0 hr
  go_enter Tryd.func26, Tryd.ntmps26
  go_wp2_with fail
  refine (reader_new bs A n c _ HR.out hn).mono ?_
  rintro e w1 ⟨g, rfl, h1, b1⟩
  go_wp2_with fail
  obtain ⟨B, hB⟩ : ∃ B, (w.alloc (.cells #[.int .u32 0, .slice none 0 0, .int .u8 0, .int .u8 0, .int .u8 0, .int .u8 0, .int .u8 0, .int .u8 0, .int .u8 0, .int .u8 0, .int .u8 0, .int .u8 0, .int .u8 0, .int .u8 0, .int .u8 0, .int .u8 0, .int .u8 0, .int .u8 0, .int .u8 0, .int .u8 0, .int .u8 0, .int .u8 0, .int .u8 0, .int .u8 0, .int .u8 0, .int .u8 0, .int .u8 0, .int .u8 0, .int .u8 0, .int .u8 0, .int .u8 0, .int .u8 0, .int .u8 0, .int .u8 0] 30)).heap.size = B := ⟨_, rfl⟩
  have hB1 : B = w.heap.size + 1 := by rw [← hB, alloc_size]
  have r1 := R0.out.below b1 R0.out.lt
  have bl1 : Below w.heap.size w w1 := ((Below.refl _ _).alloc (Nat.le_refl _) _).trans (b1.mono (by rw [hB]; omega))
  rw [hB] at h1
  clear b1 hB
  refine (reader_number B g bs (0, none) 4 w1 h1 HB.out).mono ?_
  rintro e w2 ⟨rfl, h2, g2⟩
  have hBg := h1.le
  have bl2 := adv bl1 g2 (by omega) h1.lt
  have r2 := r1.grown g2 (by simp; omega)
  have a4 := rNum_lt bs (0, none) 4 HB.out
  have e4 : sizeN 4 = 4 := rfl
  rw [e4] at h2 ⊢
  clear e4
  obtain ⟨ra, hra⟩ : ∃ ra, rNum bs (0, none) 4 = ra := ⟨_, rfl⟩
  rw [hra] at h2 a4 ⊢
  obtain ⟨s2, id⟩ := ra
  dsimp only at h2 a4 ⊢
  have hid : id < 4294967296 := Nat.lt_of_lt_of_eq a4 (by decide)
  have u0 : IntKind.u32.wrap (id : Int) = id := by rw [IntKind.wrap_u32]; omega
  have RA := Lib.hid hra
  have H2 := Lib.hid h2
  have BL2 := Lib.hid bl2
  have R2 := Lib.hid r2
  clear h1 h2 g2 bl1 bl2 r1 r2 hra a4
  have bD := built_id id
  have lD := tokv_len id (.slice none 0 0) (List.replicate 32 0) (by simp)
  have oD := tokv_one id (.slice none 0 0) rfl (List.replicate 32 0)
  obtain ⟨D, hD⟩ : ∃ D, tokv id (.slice none 0 0) (List.replicate 32 0) = D := ⟨_, rfl⟩
  rw [hD] at bD lD oD
  have I2 := Lib.hid (show (Tryd.prog.info? 30).map (·.size) = some D.toArray.size by rw [List.size_toArray, lD]; exact Tryd.tok_info)
  have Z2 := Lib.hid (Blk.new w2 30 #[.int .u32 0, .slice none 0 0, .int .u8 0, .int .u8 0, .int .u8 0, .int .u8 0, .int .u8 0, .int .u8 0, .int .u8 0, .int .u8 0, .int .u8 0, .int .u8 0, .int .u8 0, .int .u8 0, .int .u8 0, .int .u8 0, .int .u8 0, .int .u8 0, .int .u8 0, .int .u8 0, .int .u8 0, .int .u8 0, .int .u8 0, .int .u8 0, .int .u8 0, .int .u8 0, .int .u8 0, .int .u8 0, .int .u8 0, .int .u8 0, .int .u8 0, .int .u8 0, .int .u8 0, .int .u8 0])
  have BD := Lib.hid bD
  have LD := Lib.hid lD
  have OD := Lib.hid oD
  have HD := Lib.hid hD
  clear bD lD oD hD
  go_upto_region 3 with (first
    | (refine wpList_read rfl ⟨.agg D.toArray, run_built 30 _ rfl _ _ BD.out (by simp [Act.eval]), ?_⟩)
    | (refine wpList_store_row rfl 30 (.tmp 5) (.tmp 15) rfl w2.heap.size D.toArray rfl rfl 30 _ Z2.out I2.out (by simp [LD.out]) (by simpa using OD.out) ?_))
  obtain ⟨w3, hw3⟩ : ∃ x, x = (w2.alloc (.cells #[.int .u32 0, .slice none 0 0, .int .u8 0, .int .u8 0, .int .u8 0, .int .u8 0, .int .u8 0, .int .u8 0, .int .u8 0, .int .u8 0, .int .u8 0, .int .u8 0, .int .u8 0, .int .u8 0, .int .u8 0, .int .u8 0, .int .u8 0, .int .u8 0, .int .u8 0, .int .u8 0, .int .u8 0, .int .u8 0, .int .u8 0, .int .u8 0, .int .u8 0, .int .u8 0, .int .u8 0, .int .u8 0, .int .u8 0, .int .u8 0, .int .u8 0, .int .u8 0, .int .u8 0, .int .u8 0] 30)).setRow w2.heap.size D.toArray := ⟨_, rfl⟩
  rw [← hw3]
  obtain ⟨G5, hG5⟩ : ∃ x, w2.heap.size = x := ⟨_, rfl⟩
  have t3 : Blk w3 G5 30 D.toArray := by rw [hw3, ← hG5]; exact Z2.out.setRow _
  have b23 : Below w2.heap.size w2 w3 := by rw [hw3]; exact below_setRow ((Below.refl _ _).alloc (Nat.le_refl _) _) (Nat.le_refl _) _
  have h3 := H2.out.below b23
  have r3 := R2.out.below b23 R2.out.lt
  have bl3 : Below w.heap.size w w3 := BL2.out.trans (b23.mono BL2.out.size)
  have hgG : g < G5 := by rw [← hG5]; exact H2.out.lt
  rw [hG5]
  clear hw3 b23 hG5 Z2 H2 R2 BL2
  go_wp2_with fail
  refine (reader_number B g bs s2 1 w3 h3 HB.out).mono ?_
  rintro e w4 ⟨rfl, h4, g4⟩
  have bl4 := adv bl3 g4 (by omega) h3.lt
  have r4 := r3.grown g4 (by simp; omega)
  have t4 := t3.grown g4 (by simp; omega)
  have m4 := rNum_lt bs s2 1 HB.out
  have e1 : sizeN 1 = 1 := rfl
  rw [e1] at h4 ⊢
  clear e1
  obtain ⟨rb, hrb⟩ : ∃ rb, rNum bs s2 1 = rb := ⟨_, rfl⟩
  rw [hrb] at h4 m4 ⊢
  obtain ⟨s4, m⟩ := rb
  dsimp only at h4 m4 ⊢
  have m4' : m < 256 := Nat.lt_of_lt_of_eq m4 (by decide)
  have RB := Lib.hid hrb
  have H4 := Lib.hid h4
  have BL4 := Lib.hid bl4
  have R4 := Lib.hid r4
  have T4 := Lib.hid t4
  clear h3 h4 g4 bl3 bl4 r3 r4 t3 t4 hrb m4
  go_upto_if 19 with (fail)
  obtain ⟨⟨s5, m'⟩, hhd⟩ : ∃ x, decHead bs s4 m = x := ⟨_, rfl⟩
  have HD5 := Lib.hid hhd
  have hm' : m' ≤ 4 := by unfold decHead at hhd; split at hhd <;> (injection hhd; omega)
  clear hhd
  go_cut [6] (fun s6 wx => s6 = .int .u64 m' ∧ Hid (Rd wx B g bs s5) ∧ Hid (Blk wx G5 30 D.toArray) ∧ Hid (Blk wx w.heap.size 30 #[.int .u32 0, .slice none 0 0, .int .u8 0, .int .u8 0, .int .u8 0, .int .u8 0, .int .u8 0, .int .u8 0, .int .u8 0, .int .u8 0, .int .u8 0, .int .u8 0, .int .u8 0, .int .u8 0, .int .u8 0, .int .u8 0, .int .u8 0, .int .u8 0, .int .u8 0, .int .u8 0, .int .u8 0, .int .u8 0, .int .u8 0, .int .u8 0, .int .u8 0, .int .u8 0, .int .u8 0, .int .u8 0, .int .u8 0, .int .u8 0, .int .u8 0, .int .u8 0, .int .u8 0, .int .u8 0]) ∧ Hid (Below w.heap.size w wx))
  case first =>
    by_cases hm : 4 < m
    · have hmi : (4 : Int) < m := by omega
      have hd := HD5.out
      rw [decHead, if_pos hm] at hd
      injection hd with hd1 hd2
      subst hd1 hd2
      go_wp2_with fail
      refine (reader_fail B g bs s4 4 w4 H4.out (by decide)).mono ?_
      rintro e w5 ⟨rfl, h5, g5⟩
      have HB5 := Lib.hid (adv BL4.out g5 (by omega) H4.out.lt)
      have HR5 := Lib.hid (R4.out.grown g5 (by simp; omega))
      have HT5 := Lib.hid (T4.out.grown g5 (by simp; omega))
      have H5 := Lib.hid h5
      clear h5 g5
      go_wp2
      go_meet
      case rel => exact ⟨rfl, H5.out, HT5.out, HR5.out, HB5.out⟩
    · have hmi : ¬ (4 : Int) < m := by omega
      have hd := HD5.out
      rw [decHead, if_neg hm] at hd
      injection hd with hd1 hd2
      subst hd1 hd2
      go_wp2
      go_meet
      case rel => exact ⟨rfl, H4.out, T4.out, R4.out, BL4.out⟩
  case rest =>
    obtain ⟨rfl, H5, T5, R5, BL5⟩ := hcut
    clear H4 T4 R4 BL4
    go_upto_block 0 with fail
    go_cut [] (fun wx => ∃ (s : RSt) (l : List (Int × Nat)) (v : Value), Hid (decCavs bs m' s5 [] = (s, l)) ∧ l.length ≤ 4 ∧ Hid (Rd wx B g bs s) ∧ Hid (OwnC wx w.heap.size v l) ∧ Hid (Blk wx G5 30 (tokv id v (List.replicate 32 0)).toArray) ∧ Hid (Blk wx w.heap.size 30 #[.int .u32 0, .slice none 0 0, .int .u8 0, .int .u8 0, .int .u8 0, .int .u8 0, .int .u8 0, .int .u8 0, .int .u8 0, .int .u8 0, .int .u8 0, .int .u8 0, .int .u8 0, .int .u8 0, .int .u8 0, .int .u8 0, .int .u8 0, .int .u8 0, .int .u8 0, .int .u8 0, .int .u8 0, .int .u8 0, .int .u8 0, .int .u8 0, .int .u8 0, .int .u8 0, .int .u8 0, .int .u8 0, .int .u8 0, .int .u8 0, .int .u8 0, .int .u8 0, .int .u8 0, .int .u8 0]) ∧ Hid (Below w.heap.size w wx))
    case first =>
      go_wp2_with fail
      go_loopw [23] (fun i wr => ∃ (j : Nat) (s : RSt) (l : List (Int × Nat)) (v : Value), j ≤ m' ∧ i = .int .u64 j ∧ l.length ≤ j ∧ Hid (decCavs bs (m' - j) s l = decCavs bs m' s5 []) ∧ Hid (Rd wr B g bs s) ∧ Hid (OwnC wr w.heap.size v l) ∧ Hid (Blk wr G5 30 (tokv id v (List.replicate 32 0)).toArray) ∧ Hid (Blk wr w.heap.size 30 #[.int .u32 0, .slice none 0 0, .int .u8 0, .int .u8 0, .int .u8 0, .int .u8 0, .int .u8 0, .int .u8 0, .int .u8 0, .int .u8 0, .int .u8 0, .int .u8 0, .int .u8 0, .int .u8 0, .int .u8 0, .int .u8 0, .int .u8 0, .int .u8 0, .int .u8 0, .int .u8 0, .int .u8 0, .int .u8 0, .int .u8 0, .int .u8 0, .int .u8 0, .int .u8 0, .int .u8 0, .int .u8 0, .int .u8 0, .int .u8 0, .int .u8 0, .int .u8 0, .int .u8 0, .int .u8 0]) ∧ Hid (Below w.heap.size w wr)) (fun i _ => m' - (intOf i).toNat)
      case atStart => exact ⟨0, s5, [], .slice none 0 0, by omega, rfl, by simp, rfl, H5.out, OwnC.nil _ _, by rw [HD.out]; exact T5.out, R5.out, BL5.out⟩
      case round =>
        clear H5 T5 R5 BL5
        obtain ⟨j, s, l, v, hj, rfl, hl, hdec, hrd, hov, htb, hrb, hbl⟩ := hrel
        by_cases hjm : j < m'
        · have qk : (j : Int) < m' := by omega
          go_wp2_with fail
          refine (reader_number B g bs s 1 wr hrd.out HB.out).mono ?_
          rintro e wa ⟨rfl, ha, ga⟩
          have hkl := rNum_lt bs s 1 HB.out
          have e1 : sizeN 1 = 1 := rfl
          rw [e1] at ha ⊢
          clear e1
          obtain ⟨⟨sa, k⟩, hka⟩ : ∃ x, rNum bs s 1 = x := ⟨_, rfl⟩
          rw [hka] at ha hkl ⊢
          dsimp only at ha hkl ⊢
          have hk256 : k < 256 := Nat.lt_of_lt_of_eq hkl (by decide)
          have hki : IntKind.i64.wrap (k : Int) = k := IntWalk.i64_in _ (by omega)
          have BLa := Lib.hid (adv hbl.out ga (by omega) hrd.out.lt)
          have Ra := Lib.hid (hrb.out.grown ga (by simp; omega))
          have Ta := Lib.hid (htb.out.grown ga (by simp; omega))
          have Oa := Lib.hid (show OwnC wa w.heap.size v l from World.ownsRow.kept hov.out ga (.inr (fun e => by
            obtain ⟨A', n', c', p', hgb, -⟩ := hrd.out
            exact own_blk_ne hov.out hgb (by decide) e)))
          have Ha := Lib.hid ha
          have KA := Lib.hid hka
          clear ha ga hkl hka hrd hov htb hrb hbl
          by_cases hkb : kindB (k : Int) = true
          · go_wp2_with fail
            refine (token_kind k _).mono ?_
            rintro e _ ⟨rfl, rfl⟩
            rw [hkb]
            go_upto_region 12 with (fail)
            have t1 := Ta.out.cell 1
            rw [show (tokv id v (List.replicate 32 0)).toArray[1]? = some v from rfl] at t1
            have b4 := rNum_lt bs sa 4 HB.out
            have RN := fun w h => reader_number B g bs sa 4 w h HB.out
            have e4 : sizeN 4 = 4 := rfl
            rw [e4] at RN
            clear e4
            obtain ⟨⟨sb, N⟩, hkb4⟩ : ∃ x, rNum bs sa 4 = x := ⟨_, rfl⟩
            simp only [hkb4] at RN b4
            have hN : N < 4294967296 := Nat.lt_of_lt_of_eq b4 (by decide)
            have hNi : IntKind.u32.wrap (N : Int) = N := by rw [IntKind.wrap_u32]; omega
            have KB := Lib.hid hkb4
            have HRN := Lib.hid RN
            clear b4 hkb4 RN
            have hlt : G5 < wa.heap.size := Ta.out.lt
            obtain ⟨S, HS⟩ : ∃ S : World → Prop, Hid (∀ w', S w' = (w'.cell? ⟨G5, 1, none⟩ = some v)) := ⟨_, fun _ => rfl⟩
            refine wp_region_seq S 10 [(0, false), (1, false), (2, false), (3, false), (4, true), (5, false), (6, false), (7, true), (8, true), (9, false), (10, true)] (by kernel_rfl) rfl (by kernel_rfl) (by kernel_rfl) (by kernel_rfl) (fun _ _ d _ _ h => by cases d <;> exact h) ((HS.out _).mpr t1) ?_
            repeat (refine wpSeq_read rfl rfl ⟨?_, fun w1 hS => ?_, ?_⟩; rotate_left; (focus (rw [HS.out] at hS; go_split_ands; go_simp; (try go_bits); try rfl)); simp only [Act.put, List.setIfInBounds_toArray, List.set_cons_zero, List.set_cons_succ])
            refine wpSeq_write rfl rfl ?_
            go_simp
            refine (HRN.out wa.drew Ha.out).mono ?_
            rintro e wb ⟨rfl, hbb, gb⟩
            have tb := (show Blk wa.drew G5 30 _ from Ta.out).grown gb (by simp; omega)
            have rb := (show Blk wa.drew w.heap.size 30 _ from Ra.out).grown gb (by simp; omega)
            have tb1 := tb.cell 1
            rw [show (tokv id v (List.replicate 32 0)).toArray[1]? = some v from rfl] at tb1
            have hgl : g < wa.heap.size := Ha.out.lt
            have blb := adv (show Below w.heap.size w wa.drew from BLa.out.drew) gb (by omega) hgl
            have ob : OwnC wb w.heap.size v l := World.ownsRow.kept (show OwnC wa.drew w.heap.size v l from Oa.out) gb (.inr (fun e => by
              obtain ⟨A', n', c', p', hgb, -⟩ := Ha.out
              exact own_blk_ne Oa.out hgb (by decide) e))
            refine ⟨(HS.out _).mpr tb1, ?_⟩
            try simp only [Act.put, List.setIfInBounds_toArray, List.set_cons_zero, List.set_cons_succ]
            repeat (refine wpSeq_read rfl rfl ⟨?_, fun w1 hS => ?_, ?_⟩; rotate_left; (focus (rw [HS.out] at hS; go_split_ands; go_simp; (try go_bits); try rfl)); simp only [Act.put, List.setIfInBounds_toArray, List.set_cons_zero, List.set_cons_succ])
            refine wpSeq_write rfl rfl ?_
            go_simp
            refine ⟨(HS.out _).mpr (cell_new tb1 _), ?_⟩
            try simp only [Act.put, List.setIfInBounds_toArray, List.set_cons_zero, List.set_cons_succ]
            have hbB := blb.size
            have rc : Reads (wb.alloc (.cells #[.int .i64 (k : Int), .int .u32 (N : Int)] 37)) (wb.alloc (.cells #[.int .i64 (k : Int), .int .u32 (N : Int)] 37)).heap.size 2 (some ⟨wb.heap.size, 0, none⟩) 1 (cavv [((k : Int), N)]) := by
              have := Reads.new wb 37 (cavv [((k : Int), N)]) 2 1 (by rw [cavv_length]; rfl)
              rw [alloc_size]
              exact this
            refine wpSeq_write rfl rfl ?_
            refine wp_append_cavs (.tmp 34) (.tmp 40) rfl w.heap.size v l rfl (ob.alloc _) _ 1 1 [((k : Int), N)] rfl rc (by omega) (by rw [alloc_size]; omega) ?_
            intro v9 wd od bd gd
            obtain ⟨A9, n9, c9, rfl, -, -, -, -⟩ := od.sl
            have td := (tb.alloc (.cells #[.int .i64 (k : Int), .int .u32 (N : Int)] 37)).grown gd (Ne.symm (own_blk_ne ob tb (by decide)))
            have td1 := td.cell 1
            rw [show (tokv id v (List.replicate 32 0)).toArray[1]? = some v from rfl] at td1
            refine ⟨fun _ => (HS.out _).mpr td1, ?_⟩
            try simp only [Act.put, List.setIfInBounds_toArray, List.set_cons_zero, List.set_cons_succ]
            repeat (refine wpSeq_read rfl rfl ⟨?_, fun w1 hS => ?_, ?_⟩; rotate_left; (focus (rw [HS.out] at hS; go_split_ands; go_simp; (try go_bits); try rfl)); simp only [Act.put, List.setIfInBounds_toArray, List.set_cons_zero, List.set_cons_succ])
            have td1f := td.frozen 1
            have hd := (hbb.below ((Below.refl _ _).alloc (Nat.le_refl _) (.cells #[.int .i64 (k : Int), .int .u32 (N : Int)] 37))).grown (ob.alloc _) gd
            have rd := (rb.alloc (.cells #[.int .i64 (k : Int), .int .u32 (N : Int)] 37)).grown gd (Ne.symm (own_blk_ne ob rb (by decide)))
            have bld : Below w.heap.size w wd := (below_new blb _).trans bd
            have ne1 := own_blk_ne od td (by decide)
            refine wpSeq_write rfl rfl ?_
            go_simp
            refine wpSeq_nil ?_
            have HD1 := Lib.hid (hd.kept (k := G5) (World.grownBy.refl _ _ |> fun q => only_setCell (p := ⟨G5, 1, none⟩) q (.inl rfl) (.slice A9 n9 c9)) td (by decide) (by decide) (by omega))
            have TD1 : Hid (Blk (wd.setCell ⟨G5, 1, none⟩ (.slice A9 n9 c9)) G5 30 (tokv id (.slice A9 n9 c9) (List.replicate 32 0)).toArray) := by
              have := td.set_ 1 (.slice A9 n9 c9)
              rw [show (tokv id v (List.replicate 32 0)).toArray.setIfInBounds 1 (.slice A9 n9 c9) = (tokv id (.slice A9 n9 c9) (List.replicate 32 0)).toArray by simp [tokv]] at this
              exact this
            have RD1 := Lib.hid (rd.far (p := ⟨G5, 1, none⟩) (by show w.heap.size ≠ G5; omega) (.slice A9 n9 c9))
            have OD1 := Lib.hid (show OwnC (wd.setCell ⟨G5, 1, none⟩ (.slice A9 n9 c9)) w.heap.size (.slice A9 n9 c9) (l ++ [((k : Int), N)]) from own_setCell_far od (p := ⟨G5, 1, none⟩) ne1 (.slice A9 n9 c9))
            have BD1 := Lib.hid (bld.setCell (p := ⟨G5, 1, none⟩) (by show w.heap.size ≤ G5; omega) (.slice A9 n9 c9))
            have HDF : Hid (decCavs bs (m' - (j + 1)) sb (l ++ [((k : Int), N)]) = decCavs bs m' s5 []) := by
              show _ = _
              rw [← hdec.out, show m' - j = (m' - (j + 1)) + 1 by omega]
              show _ = (if kindB ((rNum bs s 1).2 : Int) then _ else _)
              rw [KA.out, if_pos hkb, KB.out]
            clear hd rd bld ne1 td td1 td1f tb tb1 rb blb ob od bd gd hbb gb rc Ha Oa Ta Ra BLa t1
            go_wp2
            go_roundw
            case rel => exact ⟨j + 1, sb, l ++ [((k : Int), N)], (.slice A9 n9 c9), by omega, by go_num, by rw [List.length_append]; simp; omega, HDF.out, HD1.out, OD1.out, TD1.out, RD1.out, BD1.out⟩
            case measure => simp [intOf]; omega
          · have hkb' : kindB (k : Int) = false := by simpa using hkb
            go_wp2_with fail
            refine (token_kind k _).mono ?_
            rintro e _ ⟨rfl, rfl⟩
            rw [hkb']
            go_wp2_with fail
            refine (reader_fail B g bs sa 12 wa Ha.out (by decide)).mono ?_
            rintro e wb ⟨rfl, hbb, gb⟩
            have BLb := Lib.hid (adv BLa.out gb (by omega) Ha.out.lt)
            have Rb := Lib.hid (Ra.out.grown gb (by simp; omega))
            have Tb := Lib.hid (Ta.out.grown gb (by simp; omega))
            have Ob := Lib.hid (show OwnC wb w.heap.size v l from World.ownsRow.kept Oa.out gb (.inr (fun e => by
              obtain ⟨A', n', c', p', hgb, -⟩ := Ha.out
              exact own_blk_ne Oa.out hgb (by decide) e)))
            have Hb := Lib.hid hbb
            have HDF : Hid (decCavs bs m' s5 [] = (rRefuse sa sa.1 12, l)) := by
              rw [← hdec.out, show m' - j = (m' - j - 1) + 1 by omega]
              show (if kindB ((rNum bs s 1).2 : Int) then _ else _) = _
              rw [KA.out, if_neg (by simp [hkb'])]
            clear hbb gb Ha Oa Ta Ra BLa
            go_wp2
            go_meet
            case rel => exact ⟨rRefuse sa sa.1 12, l, v, HDF.out, by omega, Hb.out, Ob.out, Tb.out, Rb.out, BLb.out⟩
        · have qk : ¬ (j : Int) < m' := by omega
          have hd := hdec.out
          rw [show m' - j = 0 by omega] at hd
          have HDF := Lib.hid hd.symm
          clear hd
          go_wp2
          go_meet
          case rel => exact ⟨s, l, v, HDF.out, by omega, hrd.out, hov.out, htb.out, hrb.out, hbl.out⟩
    case rest =>
      obtain ⟨s, l, v, hdec, hl4, H6, O6, T6, R6, BL6⟩ := hcut
      clear H5 T5 R5 BL5
      go_wp2_with fail
      refine (reader_digest B g bs s wc H6.out).mono ?_
      rintro e w7 ⟨rfl, h7, g7⟩
      have ltag := rDig_length bs s
      obtain ⟨⟨s7, tag⟩, hdg⟩ : ∃ x, rDig bs s = x := ⟨_, rfl⟩
      rw [hdg] at h7 ltag ⊢
      dsimp only at h7 ltag ⊢
      have DG := Lib.hid hdg
      have t7 := T6.out.grown g7 (by simp; omega)
      have r7 := R6.out.grown g7 (by simp; omega)
      have bl7 := adv BL6.out g7 (by omega) H6.out.lt
      have o7 : OwnC w7 w.heap.size v l := World.ownsRow.kept O6.out g7 (.inr (fun e => by
        obtain ⟨A', n', c', p', hgb, -⟩ := H6.out
        exact own_blk_ne O6.out hgb (by decide) e))
      have htt := tok_tag id v (List.replicate 32 0) tag (by simp) ltag
      have lV : (byv tag).length = 32 := by rw [byv_length]; exact ltag
      have oV := byv_one tag
      have TH := Lib.hid (there_blk t7 2 32 (by rw [tokv_len _ _ _ (by simp)]; decide))
      have SC := Lib.hid (Blk.setCells (byv tag) 2 w7 _ t7 (by rw [tokv_len _ _ _ (by simp), lV]; decide))
      rw [htt] at SC
      obtain ⟨V, hV⟩ : ∃ V, byv tag = V := ⟨_, rfl⟩
      rw [hV] at SC lV oV ⊢
      have IV := Lib.hid (show (Tryd.prog.info? 28).map (·.size) = some V.toArray.size by rw [List.size_toArray, lV]; exact Tryd.dig_info)
      have TH' := Lib.hid (show w7.there G5 2 V.toArray.size by rw [List.size_toArray, lV]; exact TH.out)
      have OV := Lib.hid (all_oneCell_toArray oV)
      have gsc := grown_setCells G5 V 2 w7
      have H7 := Lib.hid (h7.kept gsc t7 (by decide) (by decide) (by omega))
      have O7 := Lib.hid (show OwnC (w7.setCells G5 2 V) w.heap.size v l from World.ownsRow.kept o7 gsc (.inr (own_blk_ne o7 t7 (by decide))))
      have R7 := Lib.hid (r7.grown gsc (by simp; omega))
      have BL7 := Lib.hid (adv bl7 gsc (by omega) t7.lt)
      clear h7 g7 t7 r7 bl7 o7 hdg htt lV oV hV TH gsc H6 O6 T6 R6 BL6
      go_upto_region 15 with (refine wpList_store_mid rfl 28 (.tmp 46) (.tmp 45) rfl G5 2 V.toArray rfl rfl TH'.out IV.out OV.out ?_)
      obtain ⟨w8, hw8⟩ : ∃ x, x = w7.setCells G5 2 V := ⟨_, rfl⟩
      rw [← hw8] at SC H7 O7 R7 BL7 ⊢
      clear hw8
      have T8 := Lib.hid SC.out
      go_wp2_with fail
      obtain ⟨w9, hw9⟩ : ∃ x, x = w8.alloc (.cells #[.pointer none] 101) := ⟨_, rfl⟩
      rw [← hw9]
      have p9 : Blk w9 w8.heap.size 101 #[.pointer none] := by rw [hw9]; exact Blk.new _ _ _
      have b89 : Below w8.heap.size w8 w9 := by rw [hw9]; exact (Below.refl _ _).alloc (Nat.le_refl _) _
      obtain ⟨P8, hP8⟩ : ∃ x, w8.heap.size = x := ⟨_, rfl⟩
      rw [hP8] at p9 ⊢
      refine (reader_end B g bs s7 w9 (H7.out.below b89)).mono ?_
      rintro e w10 ⟨r, rfl, her, b910⟩
      have b810 := b89.trans (b910.mono b89.size)
      have t10 := T8.out.below b810 T8.out.lt
      have r10 := R7.out.below b810 R7.out.lt
      have p10 := p9.below b910 p9.lt
      have o10 := O7.out.kept b810
      have bl10 := BL7.out.trans (b810.mono BL7.out.size)
      have HDT : Hid (decT bs (0, none) = (s7, (id, l, tag))) := by
        show _ = _
        unfold decT
        simp only [RA.out, RB.out, HD5.out, hdec.out, DG.out]
      have P10 := Lib.hid p10
      have T10 := Lib.hid t10
      have R10 := Lib.hid r10
      have O10 := Lib.hid o10
      have BL10 := Lib.hid bl10
      have hPG : P8 ≠ w.heap.size ∧ P8 ≠ G5 ∧ w.heap.size < P8 := by
        have := R7.out.lt
        have := SC.out.lt
        omega
      have HB9 := Lib.hid (show w.heap.size < w9.heap.size by have := p9.lt; omega)
      clear b810 t10 r10 p10 o10 bl10 b89 hP8 hw9 p9 SC T8 H7 O7 R7 BL7 DG
      cases hend : rEnd bs s7 with
      | none =>
        rw [hend] at her
        have er : r = .nilIface := her
        subst er
        have HTD : Hid (tokDec bs = (none, (id, l, tag))) := by
          show _ = _
          unfold tokDec
          rw [HDT.out, hend]
        clear hend her
        have lT := tokv_len id v tag ltag
        obtain ⟨Av, nv, cv, rfl, -, -, -, -⟩ := O10.out.sl
        have oT := tokv_one id (.slice Av nv cv) rfl tag
        obtain ⟨T, hT⟩ : ∃ T, tokv id (.slice Av nv cv) tag = T := ⟨_, rfl⟩
        rw [hT] at T10 lT oT
        have RG := Lib.hid (rangeAt_blk T10.out 0 T (fun j u h => by simpa using h))
        have IT := Lib.hid (show (Tryd.prog.info? 30).map (·.size) = some T.length by rw [lT]; exact Tryd.tok_info)
        have IT' := Lib.hid (show (Tryd.prog.info? 30).map (·.size) = some T.toArray.size by rw [List.size_toArray, lT]; exact Tryd.tok_info)
        have LT := Lib.hid lT
        have OT := Lib.hid oT
        have ET := Lib.hid hT
        clear lT oT hT
        go_wp2_with fail
        refine (as_nil _ w10).mono ?_
        rintro e _ ⟨rfl, rfl⟩
        go_wp2_with (first
          | (refine load_mid_want rfl 30 (.tmp 5) rfl G5 0 rfl T _ RG.out Tryd.underlying30 rfl IT.out ?_)
          | (refine wpList_store_row rfl 30 (.tmp 2) (.tmp 55) rfl w.heap.size T.toArray rfl rfl 30 _ R10.out IT'.out (by simp [LT.out]) (by simpa using OT.out) ?_))
        have z := R10.out.setRow T.toArray
        refine bodyPost_ret (results_cell_tmp rfl rfl (load_tok z LT.out)) rfl ⟨.slice Av nv cv, .nilIface, ?_, ?_, ?_, ?_⟩
        · rw [HTD.out, ← ET.out]
          rfl
        · rw [HTD.out]
          exact World.ownsRow.kept O10.out (grown_setRow _ _ _) (.inr (own_blk_ne O10.out R10.out (by decide)))
        · rw [HTD.out]
          rfl
        · exact below_setRow BL10.out (Nat.le_refl _) _
      | some x =>
        rw [hend] at her
        obtain ⟨hh, rfl, hhB, hkb⟩ := her
        have HTD : Hid (tokDec bs = (some x, zeroTok)) := by
          show _ = _
          unfold tokDec
          rw [HDT.out, hend]
        have hg10 := (BL10.out.cell (p := ⟨0, 0, none⟩) (World.block_lt_of_cell? _ _ HE.out)).trans HE.out
        have HK := Lib.hid hkb
        have AS := Lib.hid (errors_as_hit hh P8 (.pointer none) w10 hg10 P10.out)
        clear hend hkb hg10
        go_wp2_with fail
        refine AS.out.mono ?_
        rintro e w11 ⟨rfl, p11, g11⟩
        have r11 := R10.out.grown g11 (by simp; omega)
        have k11 := HK.out.grown g11 (by
          intro e
          injection e with e
          subst e
          exact HK.out.ne_ P10.out (by decide) rfl)
        have bl11 := adv BL10.out g11 (by omega) P10.out.lt
        have p11c := p11.cell 0
        rw [show (#[Value.pointer (some ⟨hh, 0, none⟩)] : Array Value)[0]? = some (.pointer (some ⟨hh, 0, none⟩)) from rfl] at p11c
        have R11 := Lib.hid r11
        have K11 := Lib.hid k11
        have BL11 := Lib.hid bl11
        have P11 := Lib.hid p11
        clear p11 g11 r11 k11 bl11
        go_wp2_with fail
        obtain ⟨S, HS⟩ : ∃ S : World → Prop, Hid (∀ w', S w' = (w'.cell? ⟨P8, 0, none⟩ = some (.pointer (some ⟨hh, 0, none⟩)))) := ⟨_, fun _ => rfl⟩
        refine wp_region_seq S 5 [(0, false), (1, false), (2, false), (3, true), (4, false)] (by kernel_rfl) rfl (by kernel_rfl) (by kernel_rfl) (by kernel_rfl) (fun _ _ d _ _ h => by cases d <;> exact h) ((HS.out _).mpr p11c) ?_
        refine wpSeq_read rfl rfl ⟨.agg zeroTokv.toArray, fun w1 hS => run_built 30 _ rfl _ _ built_zero (by simp [Act.eval]), ?_⟩
        try simp only [Act.put, List.setIfInBounds_toArray, List.set_cons_zero, List.set_cons_succ]
        repeat (refine wpSeq_read rfl rfl ⟨?_, fun w1 hS => ?_, ?_⟩; rotate_left; (focus (rw [HS.out] at hS; go_split_ands; go_simp; (try go_bits); try rfl)); simp only [Act.put, List.setIfInBounds_toArray, List.set_cons_zero, List.set_cons_succ])
        refine wpSeq_write rfl rfl ?_
        refine wp_store_row 30 (.tmp 2) (.tmp 52) rfl w.heap.size zeroTokv.toArray rfl rfl 30 _ R11.out zeroTokv_info zeroTokv_size zeroTokv_one ?_
        have z := R11.out.setRow zeroTokv.toArray
        have kz := K11.out.setRow_far (g := w.heap.size) (by have := HB9.out; omega) zeroTokv.toArray
        have pz := (P11.out.setRow_far (g := w.heap.size) (by omega) zeroTokv.toArray).cell 0
        rw [show (#[Value.pointer (some ⟨hh, 0, none⟩)] : Array Value)[0]? = some (.pointer (some ⟨hh, 0, none⟩)) from rfl] at pz
        refine ⟨fun _ => (HS.out _).mpr pz, ?_⟩
        try simp only [Act.put, List.setIfInBounds_toArray, List.set_cons_zero, List.set_cons_succ]
        repeat (refine wpSeq_read rfl rfl ⟨?_, fun w1 hS => ?_, ?_⟩; rotate_left; (focus (rw [HS.out] at hS; go_split_ands; go_simp; (try go_bits); try rfl)); simp only [Act.put, List.setIfInBounds_toArray, List.set_cons_zero, List.set_cons_succ])
        refine wpSeq_nil ?_
        go_wp2_with fail
        refine bodyPost_ret (results_cell_tmp rfl rfl (load_tok z rfl)) rfl ⟨.slice none 0 0, .iface 101 (.pointer (some ⟨hh, 0, none⟩)), ?_, ?_, ?_, ?_⟩
        · rw [HTD.out]
          rfl
        · rw [HTD.out]
          exact OwnC.nil _ _
        · rw [HTD.out]
          exact ⟨hh, rfl, Nat.le_trans (Nat.le_of_lt HB9.out) hhB, kz⟩
        · exact below_setRow BL11.out.drew (Nat.le_refl _) _

end Go.Proofs.YtamhggndcegndaaDoor
