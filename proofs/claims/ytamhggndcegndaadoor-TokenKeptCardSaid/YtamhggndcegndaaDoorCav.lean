/-
  Caveats of the call's own; tokens copied.
-/
import Derived.Test.YtamhggndcegndaaDoorTok
import Derived.Test.YtamhggndcegndaaDoorOwn
import Derived.Stop.BytesEq
import Derived.Laws.CopyOwn
namespace Go.Proofs.YtamhggndcegndaaDoor
open Go.RowKit
open Go.Extern.Stop (cell)
set_option linter.unusedVariables false

theorem Tryd.tok_info : (Tryd.prog.info? 30).map (·.size) = some 34 := by kernel_rfl

theorem tokRes_len (id : Nat) (l : List (Int × Nat)) (tag : List Nat) (ht : tag.length = 32) : (tokRes id l tag).2.length ≤ 60 := by
  unfold tokRes
  split
  · simp
  · split
    · have := cavb_len l
      simp only [List.length_append, be_length]
      omega
    · simp

theorem Tryd.cav_info : (Tryd.prog.info? 37).map (fun i => (i.zero, i.size, i.bytes)) = some (some (.agg #[.int .i64 0, .int .u32 0]), 2, 16) := by kernel_rfl

/-- Caveats of the call's own. -/
def OwnC (w : World) (base : Nat) (v : Value) (l : List (Int × Nat)) : Prop := w.ownsRow base 37 2 v l.length (cavv l)

theorem cavv_one (l : List (Int × Nat)) : ∀ u ∈ cavv l, u.oneCell' = true := by
  intro u hu
  unfold cavv at hu
  obtain ⟨x, _, hx⟩ := List.mem_flatMap.1 hu
  simp at hx
  rcases hx with rfl | rfl <;> rfl

theorem cavv_append (a b : List (Int × Nat)) : cavv (a ++ b) = cavv a ++ cavv b := by simp [cavv]

theorem cavv_length (l : List (Int × Nat)) : (cavv l).length = l.length * 2 := by
  unfold cavv
  induction l with
  | nil => rfl
  | cons y l ih => simp only [List.flatMap_cons, List.length_append, ih, List.length_cons]; simp; omega

section
variable {w w' : World} {base : Nat} {v : Value} {l : List (Int × Nat)}
theorem OwnC.nil (w : World) (base : Nat) : OwnC w base (.slice none 0 0) [] := World.ownsRow_nil ..
theorem OwnC.sl (h : OwnC w base v l) : ∃ A n c, v = .slice A n c ∧ n = l.length ∧ n ≤ c ∧ c ≤ maxLen ∧ Reads w w.heap.size 2 A n (cavv l) := by
  obtain ⟨A, c, h1, h2, h3, h4⟩ := own_slice h
  exact ⟨A, _, c, h1, rfl, h2, h3, h4⟩
theorem OwnC.kept (h : OwnC w base v l) (hb : Below w.heap.size w w') : OwnC w' base v l :=
  World.ownsRow.kept h ⟨hb.os, hb.tape, hb.output, hb.size, fun k hk _ => hb.block k hk⟩ (row := none) (by cases v.ownBlock <;> simp)
theorem OwnC.alloc (h : OwnC w base v l) (o : Obj) : OwnC (w.alloc o) base v l := h.kept ((Below.refl _ _).alloc (Nat.le_refl _) o)
theorem OwnC.mono {base' : Nat} (h : OwnC w base v l) (hb : base' ≤ base) : OwnC w base' v l := own_mono h hb
theorem OwnC.made (w : World) (l : List (Int × Nat)) (hc : l.length ≤ maxLen) : OwnC (w.alloc (.cells (cavv l).toArray 37)) w.heap.size (.slice (some ⟨w.heap.size, 0, none⟩) l.length l.length) l := by
  exact World.ownsRow_lit (size := 2) (e := 37) w (cavv l).toArray l.length (Nat.le_refl _) hc (by simp [cavv_length])
end

theorem append_cavs {w : World} {ops : Array Oper} {rest : List Oper} {o : Oper} {a : Act} {Q : Exit → Act → World → Prop} (hgd : o.guard = none) (s x : Operand)
    (ho : o.op = .call { callee := .builtin .append, args := #[s, x], argTypes := #[23, 23] })
    (base : Nat) (v : Value) (l : List (Int × Nat)) (hs : a.eval s = v) (hown : OwnC w base v l) (A : Option Addr) (m c : Nat) (news : List (Int × Nat)) (hx : a.eval x = .slice A m c) (hr : Reads w w.heap.size 2 A m (cavv news))
    (hlen : l.length + m ≤ 8796093022208) (hbase : base ≤ w.heap.size)
    (h : ∀ v' w', OwnC w' base v' (l ++ news) → Below base w w' → w.grownBy w' v.ownBlock → wpList Tryd.prog ops Q rest (a.put o.dst v') w') : wpList Tryd.prog ops Q (o :: rest) a w := by
  obtain ⟨i0, hi0, hz0, hz1, hz2⟩ := info_parts Tryd.cav_info
  have hm : news.length = m := by have := hr.1; rw [cavv_length] at this; omega
  refine wpList_append_any (P := Tryd.prog) w hgd s x _ ho base 37 i0 _ 2 16 Tryd.underlying23 hi0 hz0 hz1 hz2 rfl (by omega) v l.length (cavv l) hs hown w.heap.size A m c (cavv news) hx hr (cavv_one _) (by simp only [maxLen]; omega) (by omega) hbase ?_
  intro v' w' h1 h2 h3
  refine h v' w' ?_ ?_ h2
  · unfold OwnC
    rw [cavv_append, List.length_append, hm]
    exact h1
  · exact below_appended (Below.refl _ _) hown h2 (Nat.le_refl _) hbase

theorem run_eql_digest (w : World) (a b : List Nat) (ha : a.length = 32) (hb : b.length = 32) (ha' : ∀ x ∈ a, x < 256) (hb' : ∀ x ∈ b, x < 256) :
    (binOp .eql 28 (.agg (byv a).toArray) (.agg (byv b).toArray)).run Tryd.prog w = .ok (.bool (a == b)) w := by
  have e : ∀ l : List Nat, (∀ x ∈ l, x < 256) → byv l = (l.map UInt8.ofNat).map cell := by
    intro l hl
    unfold byv
    rw [List.map_map]
    refine List.map_congr_left fun x hx => ?_
    have := hl x hx
    simp [cell, Function.comp, UInt8.toNat_ofNat, Nat.mod_eq_of_lt this]
  rw [e a ha', e b hb', run_eql_bytes w 28 5 32 Tryd.underlying28 Tryd.underlying5 (fun _ => by kernel_rfl) _ _ (by simpa using ha) (by simpa using hb)]
  congr 2
  rw [Bool.eq_iff_iff]
  simp only [beq_iff_eq]
  constructor
  · intro h
    have key : ∀ (a b : List Nat), (∀ x ∈ a, x < 256) → (∀ x ∈ b, x < 256) → a.map UInt8.ofNat = b.map UInt8.ofNat → a = b := by
      intro a
      induction a with
      | nil => intro b _ _ h; simpa using h.symm
      | cons x a ih =>
        intro b ha hb h
        cases b with
        | nil => simp at h
        | cons y b =>
          simp only [List.map_cons, List.cons.injEq] at h
          have h1 := congrArg UInt8.toNat h.1
          have hx := ha x (by simp)
          have hy := hb y (by simp)
          simp [UInt8.toNat_ofNat, Nat.mod_eq_of_lt hx, Nat.mod_eq_of_lt hy] at h1
          rw [h1, ih b (fun z hz => ha z (by simp [hz])) (fun z hz => hb z (by simp [hz])) h.2]
    exact key a b ha' hb' h
  · rintro rfl
    rfl

theorem tokv_one (id : Nat) (s : Value) (hs : s.oneCell' = true) (tag : List Nat) : ∀ u ∈ tokv id s tag, u.oneCell' = true := by
  intro u hu
  unfold tokv at hu
  simp only [List.mem_cons] at hu
  rcases hu with rfl | rfl | hu
  · rfl
  · exact hs
  · exact byv_one _ u hu

set_option maxRecDepth 100000 in
set_option maxHeartbeats 1000000 in
theorem keep_copy_token (id : Nat) (l : List (Int × Nat)) (A : Option Addr) (n c : Nat) (tag : List Nat) (w : World) (hr : Reads w w.heap.size 2 A n (cavv l)) (hn : n ≤ 8796093022208) (ht : tag.length = 32) :
    Calls Tryd.prog 18 #[.agg (tokv id (.slice A n c) tag).toArray] w fun e w' => ∃ v, e = .returned (.agg (tokv id v tag).toArray) ∧ OwnC w' w.heap.size v l ∧ Below w.heap.size w w' := by
  have hlen := tokv_len id (.slice A n c) tag ht
  have h1 : (tokv id (.slice A n c) tag)[1]? = some (.slice A n c) := rfl
  have hset : ∀ v, (tokv id (.slice A n c) tag).toArray.setIfInBounds 1 v = (tokv id v tag).toArray := fun v => by simp [tokv]
  obtain ⟨L, hL⟩ : ∃ L, tokv id (.slice A n c) tag = L := ⟨_, rfl⟩
  rw [hL] at hlen h1 hset ⊢
  have HS := Lib.hid hset
  have H1 := Lib.hid h1
  have HLEN := Lib.hid hlen
  clear hL hset h1 hlen
  have t0 : Blk (w.alloc (.cells L.toArray 30)) w.heap.size 30 L.toArray := Blk.new w _ _
  have hl1 : (((w.alloc (.cells L.toArray 30)).alloc (.cells #[.int .u32 0, .slice none 0 0, .int .u8 0, .int .u8 0, .int .u8 0, .int .u8 0, .int .u8 0, .int .u8 0, .int .u8 0, .int .u8 0, .int .u8 0, .int .u8 0, .int .u8 0, .int .u8 0, .int .u8 0, .int .u8 0, .int .u8 0, .int .u8 0, .int .u8 0, .int .u8 0, .int .u8 0, .int .u8 0, .int .u8 0, .int .u8 0, .int .u8 0, .int .u8 0, .int .u8 0, .int .u8 0, .int .u8 0, .int .u8 0, .int .u8 0, .int .u8 0, .int .u8 0, .int .u8 0] 30)).alloc (.cells #[] 37)).heap.size = w.heap.size + 3 := by simp
  have hr3 := ((hr.laid (.cells L.toArray 30)).laid (.cells #[.int .u32 0, .slice none 0 0, .int .u8 0, .int .u8 0, .int .u8 0, .int .u8 0, .int .u8 0, .int .u8 0, .int .u8 0, .int .u8 0, .int .u8 0, .int .u8 0, .int .u8 0, .int .u8 0, .int .u8 0, .int .u8 0, .int .u8 0, .int .u8 0, .int .u8 0, .int .u8 0, .int .u8 0, .int .u8 0, .int .u8 0, .int .u8 0, .int .u8 0, .int .u8 0, .int .u8 0, .int .u8 0, .int .u8 0, .int .u8 0, .int .u8 0, .int .u8 0, .int .u8 0, .int .u8 0] 30)).laid (.cells #[] 37)
  have t3 := (t0.alloc (.cells #[.int .u32 0, .slice none 0 0, .int .u8 0, .int .u8 0, .int .u8 0, .int .u8 0, .int .u8 0, .int .u8 0, .int .u8 0, .int .u8 0, .int .u8 0, .int .u8 0, .int .u8 0, .int .u8 0, .int .u8 0, .int .u8 0, .int .u8 0, .int .u8 0, .int .u8 0, .int .u8 0, .int .u8 0, .int .u8 0, .int .u8 0, .int .u8 0, .int .u8 0, .int .u8 0, .int .u8 0, .int .u8 0, .int .u8 0, .int .u8 0, .int .u8 0, .int .u8 0, .int .u8 0, .int .u8 0] 30)).alloc (.cells #[] 37)
  have z3 := (Blk.new (w.alloc (.cells L.toArray 30)) 30 #[.int .u32 0, .slice none 0 0, .int .u8 0, .int .u8 0, .int .u8 0, .int .u8 0, .int .u8 0, .int .u8 0, .int .u8 0, .int .u8 0, .int .u8 0, .int .u8 0, .int .u8 0, .int .u8 0, .int .u8 0, .int .u8 0, .int .u8 0, .int .u8 0, .int .u8 0, .int .u8 0, .int .u8 0, .int .u8 0, .int .u8 0, .int .u8 0, .int .u8 0, .int .u8 0, .int .u8 0, .int .u8 0, .int .u8 0, .int .u8 0, .int .u8 0, .int .u8 0, .int .u8 0, .int .u8 0]).alloc (.cells #[] 37)
  rw [alloc_size] at z3
  have c1 := (t3.cell 1).trans (show L.toArray[1]? = some (.slice A n c) by simpa using H1.out)
  have hown0 : OwnC (((w.alloc (.cells L.toArray 30)).alloc (.cells #[.int .u32 0, .slice none 0 0, .int .u8 0, .int .u8 0, .int .u8 0, .int .u8 0, .int .u8 0, .int .u8 0, .int .u8 0, .int .u8 0, .int .u8 0, .int .u8 0, .int .u8 0, .int .u8 0, .int .u8 0, .int .u8 0, .int .u8 0, .int .u8 0, .int .u8 0, .int .u8 0, .int .u8 0, .int .u8 0, .int .u8 0, .int .u8 0, .int .u8 0, .int .u8 0, .int .u8 0, .int .u8 0, .int .u8 0, .int .u8 0, .int .u8 0, .int .u8 0, .int .u8 0, .int .u8 0] 30)).alloc (.cells #[] 37)) (w.heap.size + 2) (.slice (some ⟨w.heap.size + 2, 0, none⟩) 0 0) [] := by
    have := OwnC.made ((w.alloc (.cells L.toArray 30)).alloc (.cells #[.int .u32 0, .slice none 0 0, .int .u8 0, .int .u8 0, .int .u8 0, .int .u8 0, .int .u8 0, .int .u8 0, .int .u8 0, .int .u8 0, .int .u8 0, .int .u8 0, .int .u8 0, .int .u8 0, .int .u8 0, .int .u8 0, .int .u8 0, .int .u8 0, .int .u8 0, .int .u8 0, .int .u8 0, .int .u8 0, .int .u8 0, .int .u8 0, .int .u8 0, .int .u8 0, .int .u8 0, .int .u8 0, .int .u8 0, .int .u8 0, .int .u8 0, .int .u8 0, .int .u8 0, .int .u8 0] 30)) [] (by simp [maxLen])
    simp only [alloc_size] at this
    exact this
  go_enter Tryd.func18, Tryd.ntmps18
  go_wp2_with (at_builtin; refine append_cavs rfl _ _ rfl (w.heap.size + 2) _ [] rfl hown0 A n c l rfl hr3 (by simp; omega) (by rw [hl1]; omega) ?_)
  intro v1 w1 hown1 hb1 hg1
  have B1 : Below w.heap.size w w1 := (below_new (below_new (below_new (Below.refl _ _) _) _) _).trans (hb1.mono (by omega))
  have t1 := t3.below hb1 (by omega)
  have z1 := z3.below hb1 (by omega)
  clear hr hr3 t3 z3 hown0 hl1 c1 t0 hb1
  obtain ⟨A1, n1, c1, rfl, hn1, hc1, hcm1, -⟩ := hown1.sl
  have cc1 := (t1.cell 1).trans (show L.toArray[1]? = some (.slice A n c) by simpa using H1.out)
  have ff1 := t1.frozen 1
  have hne := own_blk_ne hown1 t1 (by decide)
  have hlt := t1.lt
  have t2 := t1.set_ 1 (.slice A1 n1 c1)
  rw [HS.out] at t2
  have z2 := z1.far (p := ⟨w.heap.size, 1, none⟩) (by simp) (.slice A1 n1 c1)
  have B2 := B1.setCell (p := ⟨w.heap.size, 1, none⟩) (Nat.le_refl _) (.slice A1 n1 c1)
  have hown2 : OwnC _ (w.heap.size + 2) _ l := own_setCell_far hown1 (p := ⟨w.heap.size, 1, none⟩) hne (.slice A1 n1 c1)
  have hlen1 := tokv_len id (.slice A1 n1 c1) tag ht
  have hone1 := tokv_one id (.slice A1 n1 c1) rfl tag
  obtain ⟨M, hM⟩ : ∃ M, tokv id (.slice A1 n1 c1) tag = M := ⟨_, rfl⟩
  have HM := Lib.hid hM
  rw [hM] at t2 hlen1 hone1
  have HRG := Lib.hid (rangeAt_blk t2 0 M (fun j u h => by simpa using h))
  have HM1 := Lib.hid hlen1
  have HO := Lib.hid hone1
  have HI := Lib.hid (show (Tryd.prog.info? 30).map (·.size) = some M.length by rw [hlen1]; exact Tryd.tok_info)
  have Hn1 := Lib.hid hn1
  clear hM hlen1 hone1 HS H1 hn1
  go_wp2_with (first
    | (refine load_mid_want rfl 30 (.tmp 1) rfl w.heap.size 0 rfl M _ HRG.out Tryd.underlying30 rfl HI.out ?_)
    | (refine wpList_store_row rfl 30 (.tmp 2) (.tmp 8) rfl (w.heap.size + 1) M.toArray rfl rfl 30 _ z2 (by simpa using HI.out) (by simp [HM1.out]) (by simpa using HO.out) ?_))
  have z3 := z2.setRow M.toArray
  have HRZ := rangeAt_blk z3 0 M (fun j u h => by simpa using h)
  refine bodyPost_ret (v := .agg M.toArray) (results_cell rfl rfl (run_loadVar_mid _ _ 0 _ M _ HRZ Tryd.underlying30 rfl HI.out)) rfl ⟨_, by rw [← HM.out], ?_, below_setRow B2 (by omega) _⟩
  have := (World.ownsRow.kept hown2 (grown_setRow _ (w.heap.size + 1) M.toArray) (.inr (own_blk_ne hown2 z2 (by decide))))
  exact own_mono this (by omega)

theorem Blk.setCells {g : Nat} {t : TypeId} : ∀ (cs : List Value) (o : Nat) (w : World) (l : List Value), Blk w g t l.toArray → o + cs.length ≤ l.length → Blk (w.setCells g o cs) g t (l.take o ++ (cs ++ l.drop (o + cs.length))).toArray
  | [], o, w, l, h, _ => by simpa [World.setCells] using h
  | v :: r, o, w, l, h, hl => by
    have h1 := h.set_ o v
    rw [List.setIfInBounds_toArray] at h1
    have h2 := Blk.setCells r (o + 1) _ _ h1 (by simp at hl ⊢; omega)
    rw [World.setCells]
    have ho : o < l.length := by simp at hl; omega
    have e : (l.set o v).take (o + 1) ++ (r ++ (l.set o v).drop (o + 1 + r.length)) = l.take o ++ (v :: r ++ l.drop (o + (v :: r).length)) := by
      rw [List.take_succ_eq_append_getElem (by simpa using ho), List.take_set_of_le (Nat.le_refl o), List.getElem_set_self, List.drop_set_of_lt (by omega)]
      simp [Nat.add_assoc, Nat.add_comm 1]
    rw [e] at h2
    exact h2

theorem grown_setCells (g : Nat) : ∀ (cs : List Value) (o : Nat) (w : World), w.grownBy (w.setCells g o cs) (some g)
  | [], _, w => World.grownBy.refl w _
  | v :: r, o, w => by
    have h1 := only_setCell (World.grownBy.refl w (some g)) (p := ⟨g, o, none⟩) (.inl rfl) v
    have h2 := grown_setCells g r (o + 1) (w.setCell ⟨g, o, none⟩ v)
    rw [World.setCells]
    exact ⟨h2.os.trans h1.os, h2.tape.trans h1.tape, h2.output.trans h1.output, Nat.le_trans h1.size h2.size, fun i hi hne => (h2.block i (Nat.lt_of_lt_of_le hi h1.size) hne).trans (h1.block i hi hne)⟩

theorem below_setCells {B g : Nat} {w0 w : World} (hb : Below B w0 w) (hg : B ≤ g) (hB : B ≤ w.heap.size) (o : Nat) (cs : List Value) : Below B w0 (w.setCells g o cs) :=
  hb.grown (grown_setCells g cs o w) hB (fun k hk => by injection hk with hk; omega)

theorem there_blk {w : World} {g : Nat} {t : TypeId} {l : List Value} (h : Blk w g t l.toArray) (o n : Nat) (hn : o + n ≤ l.length) : w.there g o n := fun j hj => by
  refine ⟨?_, h.frozen _⟩
  rw [h.cell]
  simp
  omega


end Go.Proofs.YtamhggndcegndaaDoor
