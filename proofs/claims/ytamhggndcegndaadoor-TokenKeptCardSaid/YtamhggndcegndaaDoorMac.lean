/-
  sha.Join (of two texts), sha.Mac: a text's tag by a key.
-/
import Derived.Test.YtamhggndcegndaaDoorOwn
import Derived.Test.YtamhggndcegndaaDoorSum
namespace Go.Proofs.YtamhggndcegndaaDoor
open Go.RowKit
set_option linter.unusedVariables false
set_option maxRecDepth 100000

def join2 (a b : List Nat) (k : Nat) : List Nat := if k = 0 then [] else if k = 1 then a else a ++ b

/-- A key, 64 bytes long, each turned. -/
def keyPad (key : List Nat) (c : Nat) : List Nat := (key ++ List.replicate (64 - key.length) 0).map fun x => x ^^^ c

def mac (key b : List Nat) : List Nat := sha (keyPad key 92 ++ sha (keyPad key 54 ++ b))

/-- The first k of a list turned. -/
def mapK (f : Nat → Nat) (L : List Nat) (k : Nat) : List Nat := (L.take k).map f ++ L.drop k

theorem mapK_length (f : Nat → Nat) (L : List Nat) (k : Nat) : (mapK f L k).length = L.length := by simp [mapK]; omega

theorem mapK_zero (f : Nat → Nat) (L : List Nat) : mapK f L 0 = L := by simp [mapK]

theorem mapK_all (f : Nat → Nat) (L : List Nat) : mapK f L L.length = L.map f := by simp [mapK]

theorem mapK_split {L : List Nat} {k x : Nat} (f : Nat → Nat) (h : L[k]? = some x) : mapK f L k = (L.take k).map f ++ x :: L.drop (k + 1) := by
  obtain ⟨hk, rfl⟩ := List.getElem?_eq_some_iff.1 h
  unfold mapK
  rw [List.drop_eq_getElem_cons hk]

theorem mapK_cell {L : List Nat} {k x : Nat} (f : Nat → Nat) (h : L[k]? = some x) : (byv (mapK f L k)).toArray[k]? = some (.int .u8 (x : Int)) := by
  obtain ⟨hk, _⟩ := List.getElem?_eq_some_iff.1 h
  rw [mapK_split f h]
  exact byv_at (by rw [List.length_map, List.length_take]; omega)

theorem mapK_set {L : List Nat} {k x : Nat} (f : Nat → Nat) (h : L[k]? = some x) : (byv (mapK f L k)).toArray.setIfInBounds k (.int .u8 (f x : Nat)) = (byv (mapK f L (k + 1))).toArray := by
  obtain ⟨hk, _⟩ := List.getElem?_eq_some_iff.1 h
  rw [mapK_split f h]
  have e := byv_set ((L.take k).map f) (L.drop (k + 1)) x (f x)
  rw [show ((L.take k).map f).length = k by rw [List.length_map, List.length_take]; omega] at e
  rw [e]
  unfold mapK
  rw [List.take_add_one, h]
  simp

theorem sha_length (bs : List Nat) : (sha bs).length = 32 := by simp [sha, digest]

theorem sha_lt (bs : List Nat) : ∀ b ∈ sha bs, b < 256 := by
  intro b hb
  simp only [sha, digest, List.mem_map] at hb
  obtain ⟨_, _, rfl⟩ := hb
  exact Nat.mod_lt _ (by decide)

theorem keyPad_lt (key : List Nat) (h : ∀ b ∈ key, b < 256) (c : Nat) (hc : c < 256) : ∀ b ∈ keyPad key c, b < 256 := by
  intro b hb
  simp only [keyPad, List.mem_map, List.mem_append, List.mem_replicate] at hb
  obtain ⟨x, hx, rfl⟩ := hb
  rcases hx with hx | ⟨_, rfl⟩
  · exact Nat.xor_lt_two_pow (n := 8) (h x hx) hc
  · exact Nat.xor_lt_two_pow (n := 8) (by decide) hc

theorem keyPad_length (key : List Nat) (h : key.length ≤ 64) (c : Nat) : (keyPad key c).length = 64 := by simp [keyPad]; omega

-- END BY HAND
set_option maxHeartbeats 4000000 in
theorem sha_join (g n1 c1 n2 c2 : Nat) (A1 A2 : Option Addr) (b1 b2 : List Nat) (w : World) (h0 : w.cell? ⟨g, 0, none⟩ = some (.slice A1 n1 c1)) (h1 : w.cell? ⟨g, 1, none⟩ = some (.slice A2 n2 c2))
    (hr1 : Reads w w.heap.size 1 A1 n1 (byv b1)) (hr2 : Reads w w.heap.size 1 A2 n2 (byv b2)) (hn : n1 + n2 ≤ 8589934592) :
    Calls Tryd.prog 39 #[.slice (some ⟨g, 0, none⟩) 2 2] w fun e w' => ∃ v, e = .returned v ∧ OwnB w' w.heap.size v (b1 ++ b2) ∧ Below w.heap.size w w' := by
  have l1 := reads_bytes_le hr1
  have l2 := reads_bytes_le hr2
  have L1 := Lib.hid l1
  have L2 := Lib.hid l2
  have R1 := Lib.hid hr1
  have R2 := Lib.hid hr2
  have H0 := Lib.hid h0
  have H1 := Lib.hid h1
  clear l1 l2 hr1 hr2 h0 h1
  go_enter Tryd.func39, Tryd.ntmps39
  go_wp2_with fail
  go_loopw [3, 8] (fun v i wr => ∃ k : Nat, k ≤ 2 ∧ i = .int .i64 k ∧ OwnB wr w.heap.size v (join2 b1 b2 k) ∧ Below w.heap.size w wr) (fun v i _ => 2 - (intOf i).toNat)
  case atStart => exact ⟨0, by omega, rfl, OwnB.nil _ _, Below.refl _ _⟩
  case round =>
    obtain ⟨k, hk, rfl, hown, hb⟩ := hrel
    have hk3 : k = 0 ∨ k = 1 ∨ k = 2 := by omega
    rcases hk3 with rfl | rfl | rfl
    · have hc := cell_call H0.out hb
      have hr := R1.out.call hb
      have hl : (join2 b1 b2 0).length + n1 ≤ 8589934592 := by simp [join2]; omega
      have hsz := hb.size
      go_wp2_with (at_builtin; refine append_bytes rfl _ _ rfl w.heap.size _ _ rfl hown A1 n1 c1 b1 rfl hr hl hsz ?_)
      intro v' w' ho' hb' _
      go_wp2_with fail
      go_roundw
      case rel => exact ⟨1, by omega, rfl, by simpa [join2] using ho', hb.trans hb'⟩
      case measure => simp [intOf]
    · have hc := cell_call H1.out hb
      have hr := R2.out.call hb
      have hl : (join2 b1 b2 1).length + n2 ≤ 8589934592 := by simp [join2]; have := L1.out; omega
      have hsz := hb.size
      go_wp2_with (at_builtin; refine append_bytes rfl _ _ rfl w.heap.size _ _ rfl hown A2 n2 c2 b2 rfl hr hl hsz ?_)
      intro v' w' ho' hb' _
      go_wp2_with fail
      go_roundw
      case rel => exact ⟨2, by omega, rfl, by simpa [join2] using ho', hb.trans hb'⟩
      case measure => simp [intOf]
    · go_wp2_with fail
      go_ret
      exact ⟨_, rfl, by simpa [join2] using hown, hb⟩

set_option maxHeartbeats 4000000 in
theorem sha_mac (nk ck n cc : Nat) (Ak A : Option Addr) (key b : List Nat) (w : World) (hk : Reads w w.heap.size 1 Ak nk (byv key)) (hb : Reads w w.heap.size 1 A n (byv b)) (hk2 : ∀ x ∈ key, x < 256) (hb2 : ∀ x ∈ b, x < 256)
    (hnk : nk ≤ 64) (hn : n ≤ 4294967296) (ht : Tabs w) :
    Calls Tryd.prog 38 #[.slice Ak nk ck, .slice A n cc] w fun e w' => e = .returned (.agg (byv (mac key b)).toArray) ∧ Below w.heap.size w w' := by
  have lk := reads_bytes_le hk
  have lb := reads_bytes_le hb
  have qk : ¬ (nk : Int) > 64 := by omega
  obtain ⟨K0, hK0⟩ : ∃ K, key ++ List.replicate (64 - nk) 0 = K := ⟨_, rfl⟩
  have lK : K0.length = 64 := by rw [← hK0]; simp; omega
  have HKb : ∀ x ∈ K0, x < 256 := by
    rw [← hK0]
    intro x hx
    simp only [List.mem_append, List.mem_replicate] at hx
    rcases hx with hx | ⟨_, rfl⟩
    · exact hk2 x hx
    · decide
  have Hk := Lib.hid hk
  have Hb := Lib.hid hb
  have Hk2 := Lib.hid hk2
  have Hb2 := Lib.hid hb2
  have Ht := Lib.hid ht
  have HK0 := Lib.hid hK0
  have HLK := Lib.hid lK
  have Hlk := Lib.hid lk
  have Hlb := Lib.hid lb
  have HKB := Lib.hid HKb
  clear hk hb hk2 hb2 ht hK0 lK lk lb HKb
  go_enter Tryd.func38, Tryd.ntmps38
  go_upto_region 5 with (fail)
  obtain ⟨W1, hW1⟩ : ∃ x, x = ((w.alloc (.cells #[.int .u8 0, .int .u8 0, .int .u8 0, .int .u8 0, .int .u8 0, .int .u8 0, .int .u8 0, .int .u8 0, .int .u8 0, .int .u8 0, .int .u8 0, .int .u8 0, .int .u8 0, .int .u8 0, .int .u8 0, .int .u8 0, .int .u8 0, .int .u8 0, .int .u8 0, .int .u8 0, .int .u8 0, .int .u8 0, .int .u8 0, .int .u8 0, .int .u8 0, .int .u8 0, .int .u8 0, .int .u8 0, .int .u8 0, .int .u8 0, .int .u8 0, .int .u8 0] 28)).alloc (.cells #[.int .u8 0, .int .u8 0, .int .u8 0, .int .u8 0, .int .u8 0, .int .u8 0, .int .u8 0, .int .u8 0, .int .u8 0, .int .u8 0, .int .u8 0, .int .u8 0, .int .u8 0, .int .u8 0, .int .u8 0, .int .u8 0, .int .u8 0, .int .u8 0, .int .u8 0, .int .u8 0, .int .u8 0, .int .u8 0, .int .u8 0, .int .u8 0, .int .u8 0, .int .u8 0, .int .u8 0, .int .u8 0, .int .u8 0, .int .u8 0, .int .u8 0, .int .u8 0, .int .u8 0, .int .u8 0, .int .u8 0, .int .u8 0, .int .u8 0, .int .u8 0, .int .u8 0, .int .u8 0, .int .u8 0, .int .u8 0, .int .u8 0, .int .u8 0, .int .u8 0, .int .u8 0, .int .u8 0, .int .u8 0, .int .u8 0, .int .u8 0, .int .u8 0, .int .u8 0, .int .u8 0, .int .u8 0, .int .u8 0, .int .u8 0, .int .u8 0, .int .u8 0, .int .u8 0, .int .u8 0, .int .u8 0, .int .u8 0, .int .u8 0, .int .u8 0] 120)).alloc (.cells #[.int .u8 0, .int .u8 0, .int .u8 0, .int .u8 0, .int .u8 0, .int .u8 0, .int .u8 0, .int .u8 0, .int .u8 0, .int .u8 0, .int .u8 0, .int .u8 0, .int .u8 0, .int .u8 0, .int .u8 0, .int .u8 0, .int .u8 0, .int .u8 0, .int .u8 0, .int .u8 0, .int .u8 0, .int .u8 0, .int .u8 0, .int .u8 0, .int .u8 0, .int .u8 0, .int .u8 0, .int .u8 0, .int .u8 0, .int .u8 0, .int .u8 0, .int .u8 0, .int .u8 0, .int .u8 0, .int .u8 0, .int .u8 0, .int .u8 0, .int .u8 0, .int .u8 0, .int .u8 0, .int .u8 0, .int .u8 0, .int .u8 0, .int .u8 0, .int .u8 0, .int .u8 0, .int .u8 0, .int .u8 0, .int .u8 0, .int .u8 0, .int .u8 0, .int .u8 0, .int .u8 0, .int .u8 0, .int .u8 0, .int .u8 0, .int .u8 0, .int .u8 0, .int .u8 0, .int .u8 0, .int .u8 0, .int .u8 0, .int .u8 0, .int .u8 0] 120) := ⟨_, rfl⟩
  rw [← hW1]
  have Z1 : Blk W1 w.heap.size 28 #[.int .u8 0, .int .u8 0, .int .u8 0, .int .u8 0, .int .u8 0, .int .u8 0, .int .u8 0, .int .u8 0, .int .u8 0, .int .u8 0, .int .u8 0, .int .u8 0, .int .u8 0, .int .u8 0, .int .u8 0, .int .u8 0, .int .u8 0, .int .u8 0, .int .u8 0, .int .u8 0, .int .u8 0, .int .u8 0, .int .u8 0, .int .u8 0, .int .u8 0, .int .u8 0, .int .u8 0, .int .u8 0, .int .u8 0, .int .u8 0, .int .u8 0, .int .u8 0] := by rw [hW1]; exact ((Blk.new w _ _).alloc _).alloc _
  have I1 : Blk W1 (w.heap.size + 1) 120 (byv (List.replicate 64 0)).toArray := by
    have h := (Blk.new (w.alloc (.cells #[.int .u8 0, .int .u8 0, .int .u8 0, .int .u8 0, .int .u8 0, .int .u8 0, .int .u8 0, .int .u8 0, .int .u8 0, .int .u8 0, .int .u8 0, .int .u8 0, .int .u8 0, .int .u8 0, .int .u8 0, .int .u8 0, .int .u8 0, .int .u8 0, .int .u8 0, .int .u8 0, .int .u8 0, .int .u8 0, .int .u8 0, .int .u8 0, .int .u8 0, .int .u8 0, .int .u8 0, .int .u8 0, .int .u8 0, .int .u8 0, .int .u8 0, .int .u8 0] 28)) 120 #[.int .u8 0, .int .u8 0, .int .u8 0, .int .u8 0, .int .u8 0, .int .u8 0, .int .u8 0, .int .u8 0, .int .u8 0, .int .u8 0, .int .u8 0, .int .u8 0, .int .u8 0, .int .u8 0, .int .u8 0, .int .u8 0, .int .u8 0, .int .u8 0, .int .u8 0, .int .u8 0, .int .u8 0, .int .u8 0, .int .u8 0, .int .u8 0, .int .u8 0, .int .u8 0, .int .u8 0, .int .u8 0, .int .u8 0, .int .u8 0, .int .u8 0, .int .u8 0, .int .u8 0, .int .u8 0, .int .u8 0, .int .u8 0, .int .u8 0, .int .u8 0, .int .u8 0, .int .u8 0, .int .u8 0, .int .u8 0, .int .u8 0, .int .u8 0, .int .u8 0, .int .u8 0, .int .u8 0, .int .u8 0, .int .u8 0, .int .u8 0, .int .u8 0, .int .u8 0, .int .u8 0, .int .u8 0, .int .u8 0, .int .u8 0, .int .u8 0, .int .u8 0, .int .u8 0, .int .u8 0, .int .u8 0, .int .u8 0, .int .u8 0, .int .u8 0]).alloc (.cells #[.int .u8 0, .int .u8 0, .int .u8 0, .int .u8 0, .int .u8 0, .int .u8 0, .int .u8 0, .int .u8 0, .int .u8 0, .int .u8 0, .int .u8 0, .int .u8 0, .int .u8 0, .int .u8 0, .int .u8 0, .int .u8 0, .int .u8 0, .int .u8 0, .int .u8 0, .int .u8 0, .int .u8 0, .int .u8 0, .int .u8 0, .int .u8 0, .int .u8 0, .int .u8 0, .int .u8 0, .int .u8 0, .int .u8 0, .int .u8 0, .int .u8 0, .int .u8 0, .int .u8 0, .int .u8 0, .int .u8 0, .int .u8 0, .int .u8 0, .int .u8 0, .int .u8 0, .int .u8 0, .int .u8 0, .int .u8 0, .int .u8 0, .int .u8 0, .int .u8 0, .int .u8 0, .int .u8 0, .int .u8 0, .int .u8 0, .int .u8 0, .int .u8 0, .int .u8 0, .int .u8 0, .int .u8 0, .int .u8 0, .int .u8 0, .int .u8 0, .int .u8 0, .int .u8 0, .int .u8 0, .int .u8 0, .int .u8 0, .int .u8 0, .int .u8 0] 120)
    rw [alloc_size] at h
    rw [hW1]
    exact h
  have O1 : Blk W1 (w.heap.size + 1 + 1) 120 (byv (List.replicate 64 0)).toArray := by
    have h := Blk.new ((w.alloc (.cells #[.int .u8 0, .int .u8 0, .int .u8 0, .int .u8 0, .int .u8 0, .int .u8 0, .int .u8 0, .int .u8 0, .int .u8 0, .int .u8 0, .int .u8 0, .int .u8 0, .int .u8 0, .int .u8 0, .int .u8 0, .int .u8 0, .int .u8 0, .int .u8 0, .int .u8 0, .int .u8 0, .int .u8 0, .int .u8 0, .int .u8 0, .int .u8 0, .int .u8 0, .int .u8 0, .int .u8 0, .int .u8 0, .int .u8 0, .int .u8 0, .int .u8 0, .int .u8 0] 28)).alloc (.cells #[.int .u8 0, .int .u8 0, .int .u8 0, .int .u8 0, .int .u8 0, .int .u8 0, .int .u8 0, .int .u8 0, .int .u8 0, .int .u8 0, .int .u8 0, .int .u8 0, .int .u8 0, .int .u8 0, .int .u8 0, .int .u8 0, .int .u8 0, .int .u8 0, .int .u8 0, .int .u8 0, .int .u8 0, .int .u8 0, .int .u8 0, .int .u8 0, .int .u8 0, .int .u8 0, .int .u8 0, .int .u8 0, .int .u8 0, .int .u8 0, .int .u8 0, .int .u8 0, .int .u8 0, .int .u8 0, .int .u8 0, .int .u8 0, .int .u8 0, .int .u8 0, .int .u8 0, .int .u8 0, .int .u8 0, .int .u8 0, .int .u8 0, .int .u8 0, .int .u8 0, .int .u8 0, .int .u8 0, .int .u8 0, .int .u8 0, .int .u8 0, .int .u8 0, .int .u8 0, .int .u8 0, .int .u8 0, .int .u8 0, .int .u8 0, .int .u8 0, .int .u8 0, .int .u8 0, .int .u8 0, .int .u8 0, .int .u8 0, .int .u8 0, .int .u8 0] 120)) 120 #[.int .u8 0, .int .u8 0, .int .u8 0, .int .u8 0, .int .u8 0, .int .u8 0, .int .u8 0, .int .u8 0, .int .u8 0, .int .u8 0, .int .u8 0, .int .u8 0, .int .u8 0, .int .u8 0, .int .u8 0, .int .u8 0, .int .u8 0, .int .u8 0, .int .u8 0, .int .u8 0, .int .u8 0, .int .u8 0, .int .u8 0, .int .u8 0, .int .u8 0, .int .u8 0, .int .u8 0, .int .u8 0, .int .u8 0, .int .u8 0, .int .u8 0, .int .u8 0, .int .u8 0, .int .u8 0, .int .u8 0, .int .u8 0, .int .u8 0, .int .u8 0, .int .u8 0, .int .u8 0, .int .u8 0, .int .u8 0, .int .u8 0, .int .u8 0, .int .u8 0, .int .u8 0, .int .u8 0, .int .u8 0, .int .u8 0, .int .u8 0, .int .u8 0, .int .u8 0, .int .u8 0, .int .u8 0, .int .u8 0, .int .u8 0, .int .u8 0, .int .u8 0, .int .u8 0, .int .u8 0, .int .u8 0, .int .u8 0, .int .u8 0, .int .u8 0]
    rw [alloc_size, alloc_size] at h
    rw [hW1]
    exact h
  have B1 : Below w.heap.size w W1 := by rw [hW1]; exact below_new (below_new (below_new (Below.refl _ _) _) _) _
  have L1 : w.heap.size + 1 + 1 < W1.heap.size := O1.lt
  have HW1 := Lib.hid hW1
  have HZ1 := Lib.hid Z1
  have HI1 := Lib.hid I1
  have HO1 := Lib.hid O1
  have HB1 := Lib.hid B1
  clear hW1 Z1 I1 O1 B1
  have hpos : ∀ W2, Below w.heap.size w W2 → 0 < (byv key).length → ∃ ad, Ak = some ad ∧ ∀ j v, (byv key)[j]? = some v → W2.cell? (ad.add j) = some v := by
    intro W2 hb h0
    rw [byv_length, Hlk.out] at h0
    obtain ⟨ad, h1, h2, h3⟩ := (Hk.out.below hb).2 h0
    exact ⟨ad, h1, h3⟩
  have Hpos := Lib.hid hpos
  clear hpos
  refine wp_region_lit ?_
  iterate 2 (refine wpList_read rfl ⟨?_, ?_, ?_⟩; rotate_left; (focus (go_simp; (try go_bits); try rfl)); simp only [Act.put, List.setIfInBounds_toArray, List.set_cons_zero, List.set_cons_succ])
  refine wpList_copy_grown rfl (.tmp 16) (.tmp 17) 57 57 rfl 5 (by kernel_rfl) (by kernel_rfl) _ _ _ _ _ _ rfl rfl (w.heap.size + 1) 0 (byv (List.replicate 64 0)) 120 HI1.out (byv key) (by rw [byv_length, Hlk.out]; show nk = min nk 64; omega) (fun h0 => ⟨rfl, Hpos.out _ HB1.out h0⟩) (by rw [byv_length, byv_length, Hlk.out, List.length_replicate]; omega) (byv_one _) ?_
  intro w2 HG2 hG2
  rw [show (byv key).length = nk by rw [byv_length, Hlk.out]]
  try simp only [Act.put, List.setIfInBounds_toArray, List.set_cons_zero, List.set_cons_succ]
  have i2 : Blk w2 (w.heap.size + 1) 120 (byv K0).toArray := by
    have h := HG2.out
    rw [byv_splice0, Hlk.out, HK0.out] at h
    exact h
  have o2 := HO1.out.grown hG2 (by intro e; injection e with e; omega)
  have z2 := HZ1.out.grown hG2 (by intro e; injection e with e; omega)
  have b2 := HB1.out.grown hG2 (by omega) (by intro g hg; injection hg with hg; omega)
  have s2 := hG2.size
  have HI2 := Lib.hid i2
  have HO2 := Lib.hid o2
  have HZ2 := Lib.hid z2
  have HB2' := Lib.hid b2
  clear i2 o2 z2 b2 hG2 HG2
  go_upto_region 6 with (fail)
  refine wp_region_lit ?_
  iterate 2 (refine wpList_read rfl ⟨?_, ?_, ?_⟩; rotate_left; (focus (go_simp; (try go_bits); try rfl)); simp only [Act.put, List.setIfInBounds_toArray, List.set_cons_zero, List.set_cons_succ])
  refine wpList_copy_grown rfl (.tmp 19) (.tmp 20) 57 57 rfl 5 (by kernel_rfl) (by kernel_rfl) _ _ _ _ _ _ rfl rfl (w.heap.size + 1 + 1) 0 (byv (List.replicate 64 0)) 120 HO2.out (byv key) (by rw [byv_length, Hlk.out]; show nk = min nk 64; omega) (fun h0 => ⟨rfl, Hpos.out _ HB2'.out h0⟩) (by rw [byv_length, byv_length, Hlk.out, List.length_replicate]; omega) (byv_one _) ?_
  intro w3 HG3 hG3
  rw [show (byv key).length = nk by rw [byv_length, Hlk.out]]
  try simp only [Act.put, List.setIfInBounds_toArray, List.set_cons_zero, List.set_cons_succ]
  have o3 : Blk w3 (w.heap.size + 1 + 1) 120 (byv K0).toArray := by
    have h := HG3.out
    rw [byv_splice0, Hlk.out, HK0.out] at h
    exact h
  have i3 := HI2.out.grown hG3 (by intro e; injection e with e; omega)
  have z3 := HZ2.out.grown hG3 (by intro e; injection e with e; omega)
  have b3 := HB2'.out.grown hG3 (by omega) (by intro g hg; injection hg with hg; omega)
  have HI3 := Lib.hid i3
  have HO3 := Lib.hid o3
  have HZ3 := Lib.hid z3
  have HB3 := Lib.hid b3
  clear i3 o3 z3 b3 hG3 HG3
  go_wp2_with fail
  go_loopw [22] (fun i wr => ∃ k : Nat, k ≤ 64 ∧ i = .int .i64 k ∧ Blk wr (w.heap.size + 1) 120 (byv (mapK (· ^^^ 54) K0 k)).toArray ∧ Blk wr (w.heap.size + 1 + 1) 120 (byv (mapK (· ^^^ 92) K0 k)).toArray ∧ Blk wr w.heap.size 28 #[.int .u8 0, .int .u8 0, .int .u8 0, .int .u8 0, .int .u8 0, .int .u8 0, .int .u8 0, .int .u8 0, .int .u8 0, .int .u8 0, .int .u8 0, .int .u8 0, .int .u8 0, .int .u8 0, .int .u8 0, .int .u8 0, .int .u8 0, .int .u8 0, .int .u8 0, .int .u8 0, .int .u8 0, .int .u8 0, .int .u8 0, .int .u8 0, .int .u8 0, .int .u8 0, .int .u8 0, .int .u8 0, .int .u8 0, .int .u8 0, .int .u8 0, .int .u8 0] ∧ Below w.heap.size w wr) (fun i _ => 64 - (intOf i).toNat)
  case atStart => exact ⟨0, by omega, rfl, by rw [mapK_zero]; exact HI3.out, by rw [mapK_zero]; exact HO3.out, HZ3.out, HB3.out⟩
  case round =>
    obtain ⟨k, hk, rfl, hi, ho, hz, hb⟩ := hrel
    by_cases hk64 : k < 64
    · have qk : (k : Int) < 64 := by omega
      obtain ⟨x, hx⟩ : ∃ x, K0[k]? = some x := ⟨_, List.getElem?_eq_getElem (by rw [HLK.out]; exact hk64)⟩
      have lx : x < 256 := HKB.out x (List.mem_of_getElem? hx)
      have ci := hi.cell k
      have co := ho.cell k
      rw [mapK_cell _ hx] at ci co
      have fi := hi.frozen k
      have fo := ho.frozen k
      obtain ⟨y1, hy1, oy1⟩ : ∃ y : Nat, x ^^^ 54 = y ∧ bits .xor .u8 (x : Int) 54 = y := ⟨_, rfl, u8_xor_nat x 54 lx (by decide)⟩
      obtain ⟨y2, hy2, oy2⟩ : ∃ y : Nat, x ^^^ 92 = y ∧ bits .xor .u8 (x : Int) 92 = y := ⟨_, rfl, u8_xor_nat x 92 lx (by decide)⟩
      have Hi := Lib.hid hi
      have Ho := Lib.hid ho
      have Hz := Lib.hid hz
      have Hbb := Lib.hid hb
      have Hx := Lib.hid hx
      have Hy1 := Lib.hid hy1
      have Hy2 := Lib.hid hy2
      have ne1 : w.heap.size + 1 ≠ w.heap.size + 1 + 1 := by omega
      clear hi ho hz hb hx hy1 hy2
      go_wp2_with fail
      go_roundw
      case rel =>
        refine ⟨k + 1, by omega, by go_num, ?_, ?_, ?_, ?_⟩
        · rw [← mapK_set (· ^^^ 54) Hx.out, Hy1.out]
          exact (Hi.out.set_ k _).far (by show w.heap.size + 1 ≠ w.heap.size + 1 + 1; omega) _
        · rw [← mapK_set (· ^^^ 92) Hx.out, Hy2.out]
          exact (Ho.out.far (by show w.heap.size + 1 + 1 ≠ w.heap.size + 1; omega) _).set_ k _
        · exact (Hz.out.far (by show w.heap.size ≠ w.heap.size + 1; omega) _).far (by show w.heap.size ≠ w.heap.size + 1 + 1; omega) _
        · exact (Hbb.out.setCell (by show w.heap.size ≤ w.heap.size + 1; omega) _).setCell (by show w.heap.size ≤ w.heap.size + 1 + 1; omega) _
      case measure => simp [intOf]; omega
    · have qk : ¬ (k : Int) < 64 := by omega
      have hk' : k = K0.length := by rw [HLK.out]; omega
      have hP : ∀ c, K0.map (fun x => x ^^^ c) = keyPad key c := by
        intro c
        unfold keyPad
        rw [Hlk.out, HK0.out]
      rw [hk', mapK_all, hP] at hi ho
      obtain ⟨P1, hP1⟩ : ∃ P, keyPad key 54 = P := ⟨_, rfl⟩
      obtain ⟨P2, hP2⟩ : ∃ P, keyPad key 92 = P := ⟨_, rfl⟩
      rw [hP1] at hi
      rw [hP2] at ho
      have lP1 : P1.length = 64 := by rw [← hP1]; exact keyPad_length key (by rw [Hlk.out]; exact hnk) _
      have lP2 : P2.length = 64 := by rw [← hP2]; exact keyPad_length key (by rw [Hlk.out]; exact hnk) _
      have bP1 : ∀ x ∈ P1, x < 256 := by rw [← hP1]; exact keyPad_lt key Hk2.out _ (by decide)
      have bP2 : ∀ x ∈ P2, x < 256 := by rw [← hP2]; exact keyPad_lt key Hk2.out _ (by decide)
      obtain ⟨W4, rfl⟩ : ∃ x, x = wr := ⟨_, rfl⟩
      obtain ⟨W5, hW5⟩ : ∃ x, x = W4.alloc (.cells #[.slice (some ⟨w.heap.size + 1, 0, none⟩) 64 64, .slice A n cc] 57) := ⟨_, rfl⟩
      have l5 : W4.heap.size + 1 = W5.heap.size := by rw [hW5]; simp
      have x0 : W5.cell? ⟨W4.heap.size, 0, none⟩ = some (.slice (some ⟨w.heap.size + 1, 0, none⟩) 64 64) := by rw [hW5, cell_made]; rfl
      have x1 : W5.cell? ⟨W4.heap.size, 1, none⟩ = some (.slice A n cc) := by rw [hW5, cell_made]; rfl
      have b5 : Below w.heap.size w W5 := by rw [hW5]; exact below_new hb _
      have i5 : Blk W5 (w.heap.size + 1) 120 (byv P1).toArray := by rw [hW5]; exact hi.alloc _
      have o5 : Blk W5 (w.heap.size + 1 + 1) 120 (byv P2).toArray := by rw [hW5]; exact ho.alloc _
      have z5 : Blk W5 w.heap.size 28 #[.int .u8 0, .int .u8 0, .int .u8 0, .int .u8 0, .int .u8 0, .int .u8 0, .int .u8 0, .int .u8 0, .int .u8 0, .int .u8 0, .int .u8 0, .int .u8 0, .int .u8 0, .int .u8 0, .int .u8 0, .int .u8 0, .int .u8 0, .int .u8 0, .int .u8 0, .int .u8 0, .int .u8 0, .int .u8 0, .int .u8 0, .int .u8 0, .int .u8 0, .int .u8 0, .int .u8 0, .int .u8 0, .int .u8 0, .int .u8 0, .int .u8 0, .int .u8 0] := by rw [hW5]; exact hz.alloc _
      have r5 := reads_blk i5 (p := 0) (by omega)
      rw [lP1, List.drop_zero] at r5
      have J1 := sha_join W4.heap.size 64 64 n cc _ _ P1 b W5 x0 x1 r5 (Hb.out.call b5) (by omega)
      have HJ1 := Lib.hid J1
      have HB5 := Lib.hid b5
      have HO5 := Lib.hid o5
      have HZ5 := Lib.hid z5
      have HP1 := Lib.hid hP1
      have HP2 := Lib.hid hP2
      have HlP1 := Lib.hid lP1
      have HlP2 := Lib.hid lP2
      have HbP1 := Lib.hid bP1
      have HbP2 := Lib.hid bP2
      have HT5 := Lib.hid (Ht.out.below b5 Ht.out.size)
      have l45 := hb.size
      have HW5 := Lib.hid hW5
      clear hi ho hz hb hP hk' hk64 J1 r5 i5 o5 z5 b5 x0 x1 hP1 hP2 lP1 lP2 bP1 bP2 hW5
      go_wp2_with fail
      rw [← HW5.out]
      refine HJ1.out.mono ?_
      rintro e w6 ⟨v6, rfl, own6, b6⟩
      obtain ⟨A6, n6, c6, rfl, nc6, -, r6⟩ := own6.sl
      have ln6 := reads_bytes_le r6
      rw [List.length_append, HlP1.out, Hlb.out] at ln6
      have S1 := sha_sum n6 c6 A6 (P1 ++ b) w6 (by intro x hx; rcases List.mem_append.1 hx with h | h; exact HbP1.out x h; exact Hb2.out x h) r6 nc6 (by omega) (HT5.out.below b6 HT5.out.size)
      have HS1 := Lib.hid S1
      have HB6 := Lib.hid b6
      clear S1 b6 own6 r6
      go_wp2_with fail
      refine HS1.out.mono ?_
      rintro e w7 ⟨rfl, b7⟩
      obtain ⟨D, hD⟩ : ∃ D, sha (P1 ++ b) = D := ⟨_, rfl⟩
      have lD : (byv D).length = 32 := by rw [← hD, byv_length, sha_length]
      have bD : ∀ x ∈ D, x < 256 := by rw [← hD]; exact sha_lt _
      have oD := byv_one D
      obtain ⟨V, hV⟩ : ∃ V, byv D = V := ⟨_, rfl⟩
      rw [hD]
      rw [hV] at lD oD ⊢
      have HD := Lib.hid hD
      have HlD := Lib.hid lD
      have HbD := Lib.hid bD
      have HoD := Lib.hid oD
      have HV := Lib.hid hV
      clear hD lD bD oD hV
      have HI := Lib.hid (show (Tryd.prog.info? 28).map (·.size) = some V.length by rw [HlD.out]; exact Tryd.dig_info)
      have z8 := Blk.new w7 28 #[.int .u8 0, .int .u8 0, .int .u8 0, .int .u8 0, .int .u8 0, .int .u8 0, .int .u8 0, .int .u8 0, .int .u8 0, .int .u8 0, .int .u8 0, .int .u8 0, .int .u8 0, .int .u8 0, .int .u8 0, .int .u8 0, .int .u8 0, .int .u8 0, .int .u8 0, .int .u8 0, .int .u8 0, .int .u8 0, .int .u8 0, .int .u8 0, .int .u8 0, .int .u8 0, .int .u8 0, .int .u8 0, .int .u8 0, .int .u8 0, .int .u8 0, .int .u8 0]
      have Hz8 := Lib.hid z8
      have Hb7 := Lib.hid b7
      clear z8 b7
      go_upto_region 14 with (refine wpList_store_row rfl 28 (.tmp 9) (.tmp 40) rfl w7.heap.size V.toArray rfl rfl 28 _ Hz8.out (by simpa using HI.out) (by simp [HlD.out]) (by simpa using HoD.out) ?_)
      obtain ⟨w8, hw8⟩ : ∃ x, x = (w7.alloc (.cells #[.int .u8 0, .int .u8 0, .int .u8 0, .int .u8 0, .int .u8 0, .int .u8 0, .int .u8 0, .int .u8 0, .int .u8 0, .int .u8 0, .int .u8 0, .int .u8 0, .int .u8 0, .int .u8 0, .int .u8 0, .int .u8 0, .int .u8 0, .int .u8 0, .int .u8 0, .int .u8 0, .int .u8 0, .int .u8 0, .int .u8 0, .int .u8 0, .int .u8 0, .int .u8 0, .int .u8 0, .int .u8 0, .int .u8 0, .int .u8 0, .int .u8 0, .int .u8 0] 28)).setRow w7.heap.size V.toArray := ⟨_, rfl⟩
      rw [← hw8]
      have d8 : Blk w8 w7.heap.size 28 V.toArray := by rw [hw8]; exact Hz8.out.setRow _
      have b78 : Below w7.heap.size w7 w8 := by rw [hw8]; exact below_setRow ((Below.refl _ _).alloc (Nat.le_refl _) _) (Nat.le_refl _) _
      have b58 : Below W5.heap.size W5 w8 := (HB6.out.trans (Hb7.out.mono HB6.out.size)).trans (b78.mono (Nat.le_trans HB6.out.size Hb7.out.size))
      have o8 := HO5.out.below b58 HO5.out.lt
      have z8 := HZ5.out.below b58 HZ5.out.lt
      have b8 : Below w.heap.size w w8 := HB5.out.trans (b58.mono HB5.out.size)
      obtain ⟨w9, hw9⟩ : ∃ x, x = (w8.alloc (.cells #[.slice (some ⟨w.heap.size + 1 + 1, 0, none⟩) 64 64, .slice (some ⟨w7.heap.size, 0, none⟩) 32 32] 57)).drew := ⟨_, rfl⟩
      have s89 : w8.heap.size + 1 = w9.heap.size := by rw [hw9, drew_size, alloc_size]
      have x0 : w9.cell? ⟨w8.heap.size, 0, none⟩ = some (.slice (some ⟨w.heap.size + 1 + 1, 0, none⟩) 64 64) := by rw [hw9]; exact (cell_made w8 _ _ 0).trans rfl
      have x1 : w9.cell? ⟨w8.heap.size, 1, none⟩ = some (.slice (some ⟨w7.heap.size, 0, none⟩) 32 32) := by rw [hw9]; exact (cell_made w8 _ _ 1).trans rfl
      have b89 : Below w8.heap.size w8 w9 := by rw [hw9]; exact ((Below.refl _ w8).alloc (Nat.le_refl _) _).drew
      have o9 := o8.below b89 o8.lt
      have z9 := z8.below b89 z8.lt
      have d9 := d8.below b89 d8.lt
      have ro := reads_blk o9 (p := 0) (by omega)
      rw [HlP2.out, List.drop_zero] at ro
      rw [← HV.out] at d9
      have rd := reads_blk d9 (p := 0) (by omega)
      have lD32 : D.length = 32 := by rw [← byv_length, HV.out, HlD.out]
      rw [lD32, List.drop_zero] at rd
      have J2 := sha_join w8.heap.size 64 64 32 32 _ _ P2 D w9 x0 x1 ro rd (by omega)
      have T9 := (HT5.out.below b58 HT5.out.size).below b89 (Nat.le_trans HT5.out.size b58.size)
      have HJ2 := Lib.hid J2
      have HT9 := Lib.hid T9
      have Hb8 := Lib.hid b8
      have Hb89 := Lib.hid b89
      have Hz9 := Lib.hid z9
      have Hw9 := Lib.hid hw9
      have Hl32 := Lib.hid lD32
      clear J2 T9 b8 b89 z9 hw9 o9 d9 ro rd x0 x1 o8 z8 d8 b58 b78 hw8 lD32
      obtain ⟨S, HS⟩ : ∃ S : World → Prop, Hid (∀ w', S w') := ⟨fun _ => True, fun _ => trivial⟩
      refine wp_region_seq S 2 [(0, false), (1, false), (2, true), (3, true), (4, true), (5, true)] (by kernel_rfl) rfl (by kernel_rfl) (by kernel_rfl) (by kernel_rfl) (fun _ _ d _ _ h => by cases d <;> exact h) (HS.out _) ?_
      iterate 2 (refine wpSeq_read rfl rfl ⟨?_, fun w1 hS => ?_, ?_⟩; rotate_left; (focus (go_simp; (try go_bits); try rfl)); simp only [Act.put, List.setIfInBounds_toArray, List.set_cons_zero, List.set_cons_succ])
      refine wpSeq_write rfl rfl ?_
      go_simp
      rw [← Hw9.out]
      refine wpSeq_write rfl rfl ?_
      go_simp
      refine HJ2.out.mono ?_
      rintro e w10 ⟨v10, rfl, own10, b10⟩
      obtain ⟨A10, n10, c10, rfl, nc10, -, r10⟩ := own10.sl
      have ln10 := reads_bytes_le r10
      rw [List.length_append, HlP2.out, Hl32.out] at ln10
      have S2 := sha_sum n10 c10 A10 (P2 ++ D) w10 (by intro x hx; rcases List.mem_append.1 hx with h | h; exact HbP2.out x h; exact HbD.out x h) r10 nc10 (by omega) (HT9.out.below b10 HT9.out.size)
      have HS2 := Lib.hid S2
      have Hb10 := Lib.hid b10
      clear S2 b10 own10 r10
      try simp only [Act.put, List.setIfInBounds_toArray, List.set_cons_zero, List.set_cons_succ]
      refine wpSeq_write rfl rfl ?_
      go_simp
      refine HS2.out.mono ?_
      rintro e w11 ⟨rfl, b11⟩
      have hm : sha (P2 ++ D) = mac key b := by unfold mac; rw [← HD.out, ← HP1.out, ← HP2.out]
      rw [hm]
      have lM : (byv (mac key b)).length = 32 := by rw [byv_length]; exact sha_length _
      have oM := byv_one (mac key b)
      obtain ⟨M, hM⟩ : ∃ M, byv (mac key b) = M := ⟨_, rfl⟩
      rw [hM] at lM oM ⊢
      try simp only [Act.put, List.setIfInBounds_toArray, List.set_cons_zero, List.set_cons_succ]
      have z11 := (Hz9.out.below Hb10.out Hz9.out.lt).below b11 (Nat.lt_of_lt_of_le Hz9.out.lt Hb10.out.size)
      have HIM := Lib.hid (show (Tryd.prog.info? 28).map (·.size) = some M.length by rw [lM]; exact Tryd.dig_info)
      have b12 : Below w.heap.size w w11 := ((Hb8.out.trans (Hb89.out.mono Hb8.out.size)).trans (Hb10.out.mono (Nat.le_trans Hb8.out.size Hb89.out.size))).trans (b11.mono (Nat.le_trans (Nat.le_trans Hb8.out.size Hb89.out.size) Hb10.out.size))
      refine wpSeq_write rfl rfl ?_
      refine wp_store_row 28 (.tmp 4) (.tmp 45) rfl w.heap.size M.toArray rfl rfl 28 _ z11 (by simpa using HIM.out) (by simp [lM]) (by simpa using oM) ?_
      refine ⟨fun h => absurd h (by omega), ?_⟩
      refine wpSeq_nil ?_
      go_wp2_with fail
      have z12 := z11.setRow M.toArray
      have HRZ := rangeAt_blk z12 0 M (fun j u h => by simpa using h)
      refine bodyPost_ret (v := .agg M.toArray) (results_cell rfl rfl (run_loadVar_mid _ _ 0 _ M _ HRZ Tryd.underlying28 rfl HIM.out)) rfl ⟨by rw [hM], below_setRow b12 (Nat.le_refl _) _⟩

end Go.Proofs.YtamhggndcegndaaDoor
