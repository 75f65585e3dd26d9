/-
  deponentkeep, deponentbook: requests copied, requests that are the same.
-/
import Derived.Test.YtbkdccamimakoaaEnc
import Derived.Stop.BytesEq
import Derived.Laws.CopyOwn
namespace Go.Proofs.Ytbkdccamimakoaa
open Go.RowKit
open Go.Extern.Stop (cell)
set_option linter.unusedVariables false

theorem Try.cav_info : (Try.prog.info? 41).map (fun i => (i.zero, i.size, i.bytes)) = some (some (.agg #[.int .i64 0, .int .u32 0]), 2, 16) := by kernel_rfl

/-- Caveats of the call's own. -/
def OwnC (w : World) (base : Nat) (v : Value) (l : List (Int × Nat)) : Prop := w.ownsRow base 41 2 v l.length (cavv l)

theorem cavv_one (l : List (Int × Nat)) : ∀ u ∈ cavv l, u.oneCell' = true := by
  intro u hu
  unfold cavv at hu
  obtain ⟨x, _, hx⟩ := List.mem_flatMap.1 hu
  simp at hx
  rcases hx with rfl | rfl <;> rfl

theorem cavv_append (a b : List (Int × Nat)) : cavv (a ++ b) = cavv a ++ cavv b := by simp [cavv]

theorem cavv_length (l : List (Int × Nat)) : (cavv l).length = l.length * 2 := by
  unfold cavv
  induction l with
  | nil => rfl
  | cons y l ih => simp only [List.flatMap_cons, List.length_append, ih, List.length_cons]; simp; omega

section
variable {w w' : World} {base : Nat} {v : Value} {l : List (Int × Nat)}
theorem OwnC.nil (w : World) (base : Nat) : OwnC w base (.slice none 0 0) [] := World.ownsRow_nil ..
theorem OwnC.sl (h : OwnC w base v l) : ∃ A n c, v = .slice A n c ∧ n = l.length ∧ n ≤ c ∧ c ≤ maxLen ∧ Reads w w.heap.size 2 A n (cavv l) := by
  obtain ⟨A, c, h1, h2, h3, h4⟩ := own_slice h
  exact ⟨A, _, c, h1, rfl, h2, h3, h4⟩
theorem OwnC.kept (h : OwnC w base v l) (hb : Below w.heap.size w w') : OwnC w' base v l :=
  World.ownsRow.kept h ⟨hb.os, hb.tape, hb.output, hb.size, fun k hk _ => hb.block k hk⟩ (row := none) (by cases v.ownBlock <;> simp)
theorem OwnC.alloc (h : OwnC w base v l) (o : Obj) : OwnC (w.alloc o) base v l := h.kept ((Below.refl _ _).alloc (Nat.le_refl _) o)
theorem OwnC.mono {base' : Nat} (h : OwnC w base v l) (hb : base' ≤ base) : OwnC w base' v l := own_mono h hb
theorem OwnC.made (w : World) (l : List (Int × Nat)) (hc : l.length ≤ maxLen) : OwnC (w.alloc (.cells (cavv l).toArray 41)) w.heap.size (.slice (some ⟨w.heap.size, 0, none⟩) l.length l.length) l := by
  exact World.ownsRow_lit (size := 2) (e := 41) w (cavv l).toArray l.length (Nat.le_refl _) hc (by simp [cavv_length])
end

theorem append_cavs {w : World} {ops : Array Oper} {rest : List Oper} {o : Oper} {a : Act} {Q : Exit → Act → World → Prop} (hgd : o.guard = none) (s x : Operand)
    (ho : o.op = .call { callee := .builtin .append, args := #[s, x], argTypes := #[23, 23] })
    (base : Nat) (v : Value) (l : List (Int × Nat)) (hs : a.eval s = v) (hown : OwnC w base v l) (A : Option Addr) (m c : Nat) (news : List (Int × Nat)) (hx : a.eval x = .slice A m c) (hr : Reads w w.heap.size 2 A m (cavv news))
    (hlen : l.length + m ≤ 8796093022208) (hbase : base ≤ w.heap.size)
    (h : ∀ v' w', OwnC w' base v' (l ++ news) → Below base w w' → w.grownBy w' v.ownBlock → wpList Try.prog ops Q rest (a.put o.dst v') w') : wpList Try.prog ops Q (o :: rest) a w := by
  obtain ⟨i0, hi0, hz0, hz1, hz2⟩ := info_parts Try.cav_info
  have hm : news.length = m := by have := hr.1; rw [cavv_length] at this; omega
  refine wpList_append_any (P := Try.prog) w hgd s x _ ho base 41 i0 _ 2 16 Try.underlying23 hi0 hz0 hz1 hz2 rfl (by omega) v l.length (cavv l) hs hown w.heap.size A m c (cavv news) hx hr (cavv_one _) (by simp only [maxLen]; omega) (by omega) hbase ?_
  intro v' w' h1 h2 h3
  refine h v' w' ?_ ?_ h2
  · unfold OwnC
    rw [cavv_append, List.length_append, hm]
    exact h1
  · exact below_appended (Below.refl _ _) hown h2 (Nat.le_refl _) hbase

theorem grown_setRow (w : World) (g : Nat) (cs : Array Value) : w.grownBy (w.setRow g cs) (some g) :=
  ⟨rfl, rfl, rfl, by simp, fun i hi hne => by
    unfold World.setRow
    simp only [Array.getElem?_modify]
    rw [if_neg (fun e => hne (by rw [e]))]⟩

theorem Blk.setRow {w : World} {g : Nat} {t : TypeId} {cs : Array Value} (h : Blk w g t cs) (c' : Array Value) : Blk (w.setRow g c') g t c' := setRow_heap w g cs c' t (0, 0) h

/-- A struct's own cells, handed back out of a variable. -/
theorem results_cell {fn : Func} {t : Tmp} {ty : TypeId} {g : Nat} {P : Program} {w : World} {v : Value} {tmps : Array Value} (h : fn.results = #[.cell t ty]) (ht : tmps.getD t undef = .pointer (some ⟨g, 0, none⟩))
    (hl : (loadVar ty ⟨g, 0, none⟩).run P w = .ok v w) : (results fn tmps).run P w = .ok v w := by
  unfold results
  rw [h]
  simp only [Array.getD_eq_getD_getElem?] at ht
  simp [ht, asAddr, hl, Sem.run_pure]

theorem run_eql_digest (w : World) (a b : List Nat) (ha : a.length = 32) (hb : b.length = 32) (ha' : ∀ x ∈ a, x < 256) (hb' : ∀ x ∈ b, x < 256) :
    (binOp .eql 25 (.agg (byv a).toArray) (.agg (byv b).toArray)).run Try.prog w = .ok (.bool (a == b)) w := by
  have e : ∀ l : List Nat, (∀ x ∈ l, x < 256) → byv l = (l.map UInt8.ofNat).map cell := by
    intro l hl
    unfold byv
    rw [List.map_map]
    refine List.map_congr_left fun x hx => ?_
    have := hl x hx
    simp [cell, Function.comp, UInt8.toNat_ofNat, Nat.mod_eq_of_lt this]
  rw [e a ha', e b hb', run_eql_bytes w 25 5 32 Try.underlying25 Try.underlying5 (fun _ => by kernel_rfl) _ _ (by simpa using ha) (by simpa using hb)]
  congr 2
  rw [Bool.eq_iff_iff]
  simp only [beq_iff_eq]
  constructor
  · intro h
    have key : ∀ (a b : List Nat), (∀ x ∈ a, x < 256) → (∀ x ∈ b, x < 256) → a.map UInt8.ofNat = b.map UInt8.ofNat → a = b := by
      intro a
      induction a with
      | nil => intro b _ _ h; simpa using h.symm
      | cons x a ih =>
        intro b ha hb h
        cases b with
        | nil => simp at h
        | cons y b =>
          simp only [List.map_cons, List.cons.injEq] at h
          have h1 := congrArg UInt8.toNat h.1
          have hx := ha x (by simp)
          have hy := hb y (by simp)
          simp [UInt8.toNat_ofNat, Nat.mod_eq_of_lt hx, Nat.mod_eq_of_lt hy] at h1
          rw [h1, ih b (fun z hz => ha z (by simp [hz])) (fun z hz => hb z (by simp [hz])) h.2]
    exact key a b ha' hb' h
  · rintro rfl
    rfl

theorem tokv_one (id : Nat) (s : Value) (hs : s.oneCell' = true) (tag : List Nat) : ∀ u ∈ tokv id s tag, u.oneCell' = true := by
  intro u hu
  unfold tokv at hu
  simp only [List.mem_cons] at hu
  rcases hu with rfl | rfl | hu
  · rfl
  · exact hs
  · exact byv_one _ u hu

set_option maxRecDepth 100000 in
set_option maxHeartbeats 1000000 in
theorem keep_copy_token (id : Nat) (l : List (Int × Nat)) (A : Option Addr) (n c : Nat) (tag : List Nat) (w : World) (hr : Reads w w.heap.size 2 A n (cavv l)) (hn : n ≤ 8796093022208) (ht : tag.length = 32) :
    Calls Try.prog 24 #[.agg (tokv id (.slice A n c) tag).toArray] w fun e w' => ∃ v, e = .returned (.agg (tokv id v tag).toArray) ∧ OwnC w' w.heap.size v l ∧ Below w.heap.size w w' := by
  have hlen := tokv_len id (.slice A n c) tag ht
  have h1 : (tokv id (.slice A n c) tag)[1]? = some (.slice A n c) := rfl
  have hset : ∀ v, (tokv id (.slice A n c) tag).toArray.setIfInBounds 1 v = (tokv id v tag).toArray := fun v => by simp [tokv]
  obtain ⟨L, hL⟩ : ∃ L, tokv id (.slice A n c) tag = L := ⟨_, rfl⟩
  rw [hL] at hlen h1 hset ⊢
  have HS := Lib.hid hset
  have H1 := Lib.hid h1
  have HLEN := Lib.hid hlen
  clear hL hset h1 hlen
  have t0 : Blk (w.alloc (.cells L.toArray 27)) w.heap.size 27 L.toArray := Blk.new w _ _
  have hl1 : (((w.alloc (.cells L.toArray 27)).alloc (.cells #[.int .u32 0, .slice none 0 0, .int .u8 0, .int .u8 0, .int .u8 0, .int .u8 0, .int .u8 0, .int .u8 0, .int .u8 0, .int .u8 0, .int .u8 0, .int .u8 0, .int .u8 0, .int .u8 0, .int .u8 0, .int .u8 0, .int .u8 0, .int .u8 0, .int .u8 0, .int .u8 0, .int .u8 0, .int .u8 0, .int .u8 0, .int .u8 0, .int .u8 0, .int .u8 0, .int .u8 0, .int .u8 0, .int .u8 0, .int .u8 0, .int .u8 0, .int .u8 0, .int .u8 0, .int .u8 0] 27)).alloc (.cells #[] 41)).heap.size = w.heap.size + 3 := by simp
  have hr3 := ((hr.laid (.cells L.toArray 27)).laid (.cells #[.int .u32 0, .slice none 0 0, .int .u8 0, .int .u8 0, .int .u8 0, .int .u8 0, .int .u8 0, .int .u8 0, .int .u8 0, .int .u8 0, .int .u8 0, .int .u8 0, .int .u8 0, .int .u8 0, .int .u8 0, .int .u8 0, .int .u8 0, .int .u8 0, .int .u8 0, .int .u8 0, .int .u8 0, .int .u8 0, .int .u8 0, .int .u8 0, .int .u8 0, .int .u8 0, .int .u8 0, .int .u8 0, .int .u8 0, .int .u8 0, .int .u8 0, .int .u8 0, .int .u8 0, .int .u8 0] 27)).laid (.cells #[] 41)
  have t3 := (t0.alloc (.cells #[.int .u32 0, .slice none 0 0, .int .u8 0, .int .u8 0, .int .u8 0, .int .u8 0, .int .u8 0, .int .u8 0, .int .u8 0, .int .u8 0, .int .u8 0, .int .u8 0, .int .u8 0, .int .u8 0, .int .u8 0, .int .u8 0, .int .u8 0, .int .u8 0, .int .u8 0, .int .u8 0, .int .u8 0, .int .u8 0, .int .u8 0, .int .u8 0, .int .u8 0, .int .u8 0, .int .u8 0, .int .u8 0, .int .u8 0, .int .u8 0, .int .u8 0, .int .u8 0, .int .u8 0, .int .u8 0] 27)).alloc (.cells #[] 41)
  have z3 := (Blk.new (w.alloc (.cells L.toArray 27)) 27 #[.int .u32 0, .slice none 0 0, .int .u8 0, .int .u8 0, .int .u8 0, .int .u8 0, .int .u8 0, .int .u8 0, .int .u8 0, .int .u8 0, .int .u8 0, .int .u8 0, .int .u8 0, .int .u8 0, .int .u8 0, .int .u8 0, .int .u8 0, .int .u8 0, .int .u8 0, .int .u8 0, .int .u8 0, .int .u8 0, .int .u8 0, .int .u8 0, .int .u8 0, .int .u8 0, .int .u8 0, .int .u8 0, .int .u8 0, .int .u8 0, .int .u8 0, .int .u8 0, .int .u8 0, .int .u8 0]).alloc (.cells #[] 41)
  rw [alloc_size] at z3
  have c1 := (t3.cell 1).trans (show L.toArray[1]? = some (.slice A n c) by simpa using H1.out)
  have hown0 : OwnC (((w.alloc (.cells L.toArray 27)).alloc (.cells #[.int .u32 0, .slice none 0 0, .int .u8 0, .int .u8 0, .int .u8 0, .int .u8 0, .int .u8 0, .int .u8 0, .int .u8 0, .int .u8 0, .int .u8 0, .int .u8 0, .int .u8 0, .int .u8 0, .int .u8 0, .int .u8 0, .int .u8 0, .int .u8 0, .int .u8 0, .int .u8 0, .int .u8 0, .int .u8 0, .int .u8 0, .int .u8 0, .int .u8 0, .int .u8 0, .int .u8 0, .int .u8 0, .int .u8 0, .int .u8 0, .int .u8 0, .int .u8 0, .int .u8 0, .int .u8 0] 27)).alloc (.cells #[] 41)) (w.heap.size + 2) (.slice (some ⟨w.heap.size + 2, 0, none⟩) 0 0) [] := by
    have := OwnC.made ((w.alloc (.cells L.toArray 27)).alloc (.cells #[.int .u32 0, .slice none 0 0, .int .u8 0, .int .u8 0, .int .u8 0, .int .u8 0, .int .u8 0, .int .u8 0, .int .u8 0, .int .u8 0, .int .u8 0, .int .u8 0, .int .u8 0, .int .u8 0, .int .u8 0, .int .u8 0, .int .u8 0, .int .u8 0, .int .u8 0, .int .u8 0, .int .u8 0, .int .u8 0, .int .u8 0, .int .u8 0, .int .u8 0, .int .u8 0, .int .u8 0, .int .u8 0, .int .u8 0, .int .u8 0, .int .u8 0, .int .u8 0, .int .u8 0, .int .u8 0] 27)) [] (by simp [maxLen])
    simp only [alloc_size] at this
    exact this
  go_enter Try.func24, Try.ntmps24
  go_wp2_with (at_builtin; refine append_cavs rfl _ _ rfl (w.heap.size + 2) _ [] rfl hown0 A n c l rfl hr3 (by simp; omega) (by rw [hl1]; omega) ?_)
  intro v1 w1 hown1 hb1 hg1
  have B1 : Below w.heap.size w w1 := (below_new (below_new (below_new (Below.refl _ _) _) _) _).trans (hb1.mono (by omega))
  have t1 := t3.below hb1 (by omega)
  have z1 := z3.below hb1 (by omega)
  clear hr hr3 t3 z3 hown0 hl1 c1 t0 hb1
  obtain ⟨A1, n1, c1, rfl, hn1, hc1, hcm1, -⟩ := hown1.sl
  have cc1 := (t1.cell 1).trans (show L.toArray[1]? = some (.slice A n c) by simpa using H1.out)
  have ff1 := t1.frozen 1
  have hne := own_blk_ne hown1 t1 (by decide)
  have hlt := t1.lt
  have t2 := t1.set_ 1 (.slice A1 n1 c1)
  rw [HS.out] at t2
  have z2 := z1.far (p := ⟨w.heap.size, 1, none⟩) (by simp) (.slice A1 n1 c1)
  have B2 := B1.setCell (p := ⟨w.heap.size, 1, none⟩) (Nat.le_refl _) (.slice A1 n1 c1)
  have hown2 : OwnC _ (w.heap.size + 2) _ l := own_setCell_far hown1 (p := ⟨w.heap.size, 1, none⟩) hne (.slice A1 n1 c1)
  have hlen1 := tokv_len id (.slice A1 n1 c1) tag ht
  have hone1 := tokv_one id (.slice A1 n1 c1) rfl tag
  obtain ⟨M, hM⟩ : ∃ M, tokv id (.slice A1 n1 c1) tag = M := ⟨_, rfl⟩
  have HM := Lib.hid hM
  rw [hM] at t2 hlen1 hone1
  have HRG := Lib.hid (rangeAt_blk t2 0 M (fun j u h => by simpa using h))
  have HM1 := Lib.hid hlen1
  have HO := Lib.hid hone1
  have HI := Lib.hid (show (Try.prog.info? 27).map (·.size) = some M.length by rw [hlen1]; exact Try.tok_info)
  have Hn1 := Lib.hid hn1
  clear hM hlen1 hone1 HS H1 hn1
  go_wp2_with (first
    | (refine load_mid_want rfl 27 (.tmp 1) rfl w.heap.size 0 rfl M _ HRG.out Try.underlying27 rfl HI.out ?_)
    | (refine wpList_store_row rfl 27 (.tmp 2) (.tmp 8) rfl (w.heap.size + 1) M.toArray rfl rfl 27 _ z2 (by simpa using HI.out) (by simp [HM1.out]) (by simpa using HO.out) ?_))
  have z3 := z2.setRow M.toArray
  have HRZ := rangeAt_blk z3 0 M (fun j u h => by simpa using h)
  refine bodyPost_ret (v := .agg M.toArray) (results_cell rfl rfl (run_loadVar_mid _ _ 0 _ M _ HRZ Try.underlying27 rfl HI.out)) rfl ⟨_, by rw [← HM.out], ?_, below_setRow B2 (by omega) _⟩
  have := (World.ownsRow.kept hown2 (grown_setRow _ (w.heap.size + 1) M.toArray) (.inr (own_blk_ne hown2 z2 (by decide))))
  exact own_mono this (by omega)

theorem Blk.setCells {g : Nat} {t : TypeId} : ∀ (cs : List Value) (o : Nat) (w : World) (l : List Value), Blk w g t l.toArray → o + cs.length ≤ l.length → Blk (w.setCells g o cs) g t (l.take o ++ (cs ++ l.drop (o + cs.length))).toArray
  | [], o, w, l, h, _ => by simpa [World.setCells] using h
  | v :: r, o, w, l, h, hl => by
    have h1 := h.set_ o v
    rw [List.setIfInBounds_toArray] at h1
    have h2 := Blk.setCells r (o + 1) _ _ h1 (by simp at hl ⊢; omega)
    rw [World.setCells]
    have ho : o < l.length := by simp at hl; omega
    have e : (l.set o v).take (o + 1) ++ (r ++ (l.set o v).drop (o + 1 + r.length)) = l.take o ++ (v :: r ++ l.drop (o + (v :: r).length)) := by
      rw [List.take_succ_eq_append_getElem (by simpa using ho), List.take_set_of_le (Nat.le_refl o), List.getElem_set_self, List.drop_set_of_lt (by omega)]
      simp [Nat.add_assoc, Nat.add_comm 1]
    rw [e] at h2
    exact h2

theorem grown_setCells (g : Nat) : ∀ (cs : List Value) (o : Nat) (w : World), w.grownBy (w.setCells g o cs) (some g)
  | [], _, w => World.grownBy.refl w _
  | v :: r, o, w => by
    have h1 := only_setCell (World.grownBy.refl w (some g)) (p := ⟨g, o, none⟩) (.inl rfl) v
    have h2 := grown_setCells g r (o + 1) (w.setCell ⟨g, o, none⟩ v)
    rw [World.setCells]
    exact ⟨h2.os.trans h1.os, h2.tape.trans h1.tape, h2.output.trans h1.output, Nat.le_trans h1.size h2.size, fun i hi hne => (h2.block i (Nat.lt_of_lt_of_le hi h1.size) hne).trans (h1.block i hi hne)⟩

theorem below_setCells {B g : Nat} {w0 w : World} (hb : Below B w0 w) (hg : B ≤ g) (hB : B ≤ w.heap.size) (o : Nat) (cs : List Value) : Below B w0 (w.setCells g o cs) :=
  hb.grown (grown_setCells g cs o w) hB (fun k hk => by injection hk with hk; omega)

theorem there_blk {w : World} {g : Nat} {t : TypeId} {l : List Value} (h : Blk w g t l.toArray) (o n : Nat) (hn : o + n ≤ l.length) : w.there g o n := fun j hj => by
  refine ⟨?_, h.frozen _⟩
  rw [h.cell]
  simp
  omega

theorem reqv_splice (R : Req) (cav cav' leafv : Value) (ht : R.tag.length = 32) : (reqv R cav leafv).take 1 ++ (tokv R.tid cav' R.tag ++ (reqv R cav leafv).drop (1 + (tokv R.tid cav' R.tag).length)) = reqv R cav' leafv := by
  have h : (Value.int .i64 R.op :: tokv R.tid cav R.tag).length = 35 := by rw [List.length_cons, tokv_len _ _ _ ht]
  rw [tokv_len _ _ _ ht]
  have hd : (reqv R cav leafv).drop (1 + 34) = R.rest leafv := by
    unfold reqv
    rw [List.drop_left' h]
  rw [hd]
  rfl

theorem reqv_set (R : Req) (cav leafv leafv' : Value) (ht : R.tag.length = 32) : (reqv R cav leafv).set 47 leafv' = reqv R cav leafv' := by
  have h : (Value.int .i64 R.op :: tokv R.tid cav R.tag).length = 35 := by rw [List.length_cons, tokv_len _ _ _ ht]
  unfold reqv
  rw [List.set_append_right _ _ (by rw [h]; omega), h]
  rfl

theorem reqv_one (R : Req) (cav leafv : Value) (hc : cav.oneCell' = true) (hl : leafv.oneCell' = true) : ∀ u ∈ reqv R cav leafv, u.oneCell' = true := by
  intro u hu
  unfold reqv at hu
  rcases List.mem_append.1 hu with hu | hu
  · rcases List.mem_cons.1 hu with rfl | hu
    · rfl
    · exact tokv_one _ _ hc _ u hu
  · simp [Req.rest] at hu
    rcases hu with rfl | rfl | rfl | rfl | rfl | rfl | rfl | rfl | rfl | rfl | rfl | rfl | rfl <;> first | rfl | exact hl

set_option maxRecDepth 100000 in
set_option maxHeartbeats 2000000 in
theorem keep_copy_request (R : Req) (Ac : Option Addr) (n cc : Nat) (Al : Option Addr) (m cl : Nat) (w : World) (ht : R.tag.length = 32) (hc : Reads w w.heap.size 2 Ac n (cavv R.cavs)) (hn : n ≤ 8796093022208) (hl : Reads w w.heap.size 1 Al m (byv R.leaf)) (hm : m ≤ 4294967296) :
    Calls Try.prog 8 #[.agg (reqv R (.slice Ac n cc) (.slice Al m cl)).toArray] w fun e w' => ∃ v u, e = .returned (.agg (reqv R v u).toArray) ∧ OwnC w' w.heap.size v R.cavs ∧ OwnB w' w.heap.size u R.leaf ∧ Below w.heap.size w w' := by
  have hlen := reqv_len R (.slice Ac n cc) (.slice Al m cl) ht
  have hrt := reqv_tok R (.slice Ac n cc) (.slice Al m cl)
  have h47 := (reqv_rest R (.slice Ac n cc) (.slice Al m cl) ht 12).trans (show _ = some (.slice Al m cl) from rfl)
  have hcopy := fun w' h => keep_copy_token R.tid R.cavs Ac n cc R.tag w' h hn ht
  have hspl := fun v => reqv_splice R (.slice Ac n cc) v (.slice Al m cl) ht
  obtain ⟨L, hL⟩ : ∃ L, reqv R (.slice Ac n cc) (.slice Al m cl) = L := ⟨_, rfl⟩
  have hlenT := tokv_len R.tid (.slice Ac n cc) R.tag ht
  obtain ⟨T, hT⟩ : ∃ T, tokv R.tid (.slice Ac n cc) R.tag = T := ⟨_, rfl⟩
  rw [hL] at hlen hrt h47 ⊢
  rw [hT] at hrt hlenT
  simp only [hT] at hcopy
  simp only [hL] at hspl
  have HCO := Lib.hid hcopy
  have HSP := Lib.hid hspl
  have H47 := Lib.hid h47
  have HLEN := Lib.hid hlen
  have HI2 := Lib.hid (show (Try.prog.info? 27).map (·.size) = some T.length by rw [hlenT]; exact Try.tok_info)
  have t0 : Blk ((w.alloc (.cells L.toArray 31)).alloc (.cells #[.int .i64 0, .int .u32 0, .slice none 0 0, .int .u8 0, .int .u8 0, .int .u8 0, .int .u8 0, .int .u8 0, .int .u8 0, .int .u8 0, .int .u8 0, .int .u8 0, .int .u8 0, .int .u8 0, .int .u8 0, .int .u8 0, .int .u8 0, .int .u8 0, .int .u8 0, .int .u8 0, .int .u8 0, .int .u8 0, .int .u8 0, .int .u8 0, .int .u8 0, .int .u8 0, .int .u8 0, .int .u8 0, .int .u8 0, .int .u8 0, .int .u8 0, .int .u8 0, .int .u8 0, .int .u8 0, .int .u8 0, .int .i64 0, .int .i64 0, .int .i64 0, .int .i64 0, .int .i64 0, .int .u32 0, .int .u64 0, .int .u64 0, .int .u32 0, .int .u32 0, .int .u32 0, .int .u64 0, .slice none 0 0] 31)) w.heap.size 31 L.toArray := (Blk.new w _ _).alloc _
  have z0 : Blk ((w.alloc (.cells L.toArray 31)).alloc (.cells #[.int .i64 0, .int .u32 0, .slice none 0 0, .int .u8 0, .int .u8 0, .int .u8 0, .int .u8 0, .int .u8 0, .int .u8 0, .int .u8 0, .int .u8 0, .int .u8 0, .int .u8 0, .int .u8 0, .int .u8 0, .int .u8 0, .int .u8 0, .int .u8 0, .int .u8 0, .int .u8 0, .int .u8 0, .int .u8 0, .int .u8 0, .int .u8 0, .int .u8 0, .int .u8 0, .int .u8 0, .int .u8 0, .int .u8 0, .int .u8 0, .int .u8 0, .int .u8 0, .int .u8 0, .int .u8 0, .int .u8 0, .int .i64 0, .int .i64 0, .int .i64 0, .int .i64 0, .int .i64 0, .int .u32 0, .int .u64 0, .int .u64 0, .int .u32 0, .int .u32 0, .int .u32 0, .int .u64 0, .slice none 0 0] 31)) (w.heap.size + 1) 31 #[.int .i64 0, .int .u32 0, .slice none 0 0, .int .u8 0, .int .u8 0, .int .u8 0, .int .u8 0, .int .u8 0, .int .u8 0, .int .u8 0, .int .u8 0, .int .u8 0, .int .u8 0, .int .u8 0, .int .u8 0, .int .u8 0, .int .u8 0, .int .u8 0, .int .u8 0, .int .u8 0, .int .u8 0, .int .u8 0, .int .u8 0, .int .u8 0, .int .u8 0, .int .u8 0, .int .u8 0, .int .u8 0, .int .u8 0, .int .u8 0, .int .u8 0, .int .u8 0, .int .u8 0, .int .u8 0, .int .u8 0, .int .i64 0, .int .i64 0, .int .i64 0, .int .i64 0, .int .i64 0, .int .u32 0, .int .u64 0, .int .u64 0, .int .u32 0, .int .u32 0, .int .u32 0, .int .u64 0, .slice none 0 0] := by
    have := Blk.new (w.alloc (.cells L.toArray 31)) 31 #[.int .i64 0, .int .u32 0, .slice none 0 0, .int .u8 0, .int .u8 0, .int .u8 0, .int .u8 0, .int .u8 0, .int .u8 0, .int .u8 0, .int .u8 0, .int .u8 0, .int .u8 0, .int .u8 0, .int .u8 0, .int .u8 0, .int .u8 0, .int .u8 0, .int .u8 0, .int .u8 0, .int .u8 0, .int .u8 0, .int .u8 0, .int .u8 0, .int .u8 0, .int .u8 0, .int .u8 0, .int .u8 0, .int .u8 0, .int .u8 0, .int .u8 0, .int .u8 0, .int .u8 0, .int .u8 0, .int .u8 0, .int .i64 0, .int .i64 0, .int .i64 0, .int .i64 0, .int .i64 0, .int .u32 0, .int .u64 0, .int .u64 0, .int .u32 0, .int .u32 0, .int .u32 0, .int .u64 0, .slice none 0 0]
    rwa [alloc_size] at this
  have HRG := Lib.hid (rangeAt_blk t0 1 T hrt)
  have hc0 := (hc.laid (.cells L.toArray 31)).laid (.cells #[.int .i64 0, .int .u32 0, .slice none 0 0, .int .u8 0, .int .u8 0, .int .u8 0, .int .u8 0, .int .u8 0, .int .u8 0, .int .u8 0, .int .u8 0, .int .u8 0, .int .u8 0, .int .u8 0, .int .u8 0, .int .u8 0, .int .u8 0, .int .u8 0, .int .u8 0, .int .u8 0, .int .u8 0, .int .u8 0, .int .u8 0, .int .u8 0, .int .u8 0, .int .u8 0, .int .u8 0, .int .u8 0, .int .u8 0, .int .u8 0, .int .u8 0, .int .u8 0, .int .u8 0, .int .u8 0, .int .u8 0, .int .i64 0, .int .i64 0, .int .i64 0, .int .i64 0, .int .i64 0, .int .u32 0, .int .u64 0, .int .u64 0, .int .u32 0, .int .u32 0, .int .u32 0, .int .u64 0, .slice none 0 0] 31)
  clear hcopy hspl h47 hlen hlenT hrt hL hT
  go_enter Try.func8, Try.ntmps8
  go_wp2_with (refine load_mid_want rfl 27 (.tmp 3) rfl w.heap.size 1 rfl T _ HRG.out Try.underlying27 rfl HI2.out ?_)
  refine (HCO.out _ hc0).mono ?_
  rintro e w1 ⟨v1, rfl, hown1, hb1⟩
  simp only [alloc_size] at hown1 hb1
  have B1 : Below w.heap.size w w1 := (below_new (below_new (Below.refl _ _) _) _).trans (hb1.mono (by omega))
  have t1 := t0.below hb1 (by omega)
  have z1 := z0.below hb1 (by omega)
  have hsz1 := hb1.size
  simp only [alloc_size] at hsz1
  clear hb1 t0 z0 hc0 HRG hc
  obtain ⟨A1, n1, c1, rfl, -, -, -, -⟩ := hown1.sl
  have hlenT2 := tokv_len R.tid (.slice A1 n1 c1) R.tag ht
  have honeT2 := tokv_one R.tid (.slice A1 n1 c1) rfl R.tag
  have hsp2 := HSP.out (.slice A1 n1 c1)
  obtain ⟨T2, hT2⟩ : ∃ T2, tokv R.tid (.slice A1 n1 c1) R.tag = T2 := ⟨_, rfl⟩
  rw [hT2] at hlenT2 honeT2 hsp2 ⊢
  clear hT2
  have t2 := Blk.setCells T2 1 w1 L t1 (by rw [hlenT2, HLEN.out]; decide)
  rw [hsp2] at t2
  have hth := there_blk t1 1 T2.toArray.size (by rw [List.size_toArray, hlenT2, HLEN.out]; decide)
  have z2 := z1.grown (grown_setCells w.heap.size T2 1 w1) (by simp)
  have B2 := below_setCells B1 (Nat.le_refl _) B1.size 1 T2
  have hown2 : OwnC (w1.setCells w.heap.size 1 T2) (w.heap.size + 2) (.slice A1 n1 c1) R.cavs := World.ownsRow.kept hown1 (grown_setCells w.heap.size T2 1 w1) (.inr (own_blk_ne hown1 t1 (by decide)))
  have h47' := (reqv_rest R (.slice A1 n1 c1) (.slice Al m cl) ht 12).trans (show _ = some (.slice Al m cl) from rfl)
  have hsz2 : w.heap.size + 2 ≤ (w1.setCells w.heap.size 1 T2).heap.size := Nat.le_trans hsz1 (grown_setCells w.heap.size T2 1 w1).size
  have hset := fun u => reqv_set R (.slice A1 n1 c1) (.slice Al m cl) u ht
  obtain ⟨w2, hw2⟩ : ∃ w2, w1.setCells w.heap.size 1 T2 = w2 := ⟨_, rfl⟩
  obtain ⟨M, hM⟩ : ∃ M, reqv R (.slice A1 n1 c1) (.slice Al m cl) = M := ⟨_, rfl⟩
  rw [hw2] at z2 B2 hown2 hsz2
  rw [hM] at h47'
  simp only [hM] at hset
  rw [hw2, hM] at t2
  have HSET := Lib.hid hset
  have HW2 := Lib.hid hw2
  have HTH := Lib.hid hth
  have HI5 := Lib.hid (show (Try.prog.info? 27).map (·.size) = some T2.toArray.size by rw [List.size_toArray, hlenT2]; exact Try.tok_info)
  have HO5 := Lib.hid (all_oneCell_toArray honeT2)
  have H47' := Lib.hid h47'
  clear hM hset hw2 hth hlenT2 honeT2 hsp2 h47' HSP H47 HLEN t1 z1 hown1 hsz1 HCO B1
  have hl2 := (hl.call B2).laid (.cells #[] 5)
  have t2l := t2.lt
  have c47 := (t2.cell 47).trans (show M.toArray[47]? = some (.slice Al m cl) by simpa using H47'.out)
  clear hl
  go_wp2_with (first
    | (refine wpList_store_mid rfl 27 (.tmp 6) (.tmp 5) rfl w.heap.size 1 T2.toArray rfl rfl HTH.out HI5.out HO5.out ?_; rw [show T2.toArray.toList = T2 from rfl, HW2.out])
    | (at_builtin; refine append_bytes rfl _ _ rfl w2.heap.size _ [] rfl (OwnB.made w2 [] (by simp [maxLen])) Al m cl R.leaf rfl hl2 (by simp; omega) (by simp) ?_))
  intro v3 w3 hown3 hb3 hg3
  have B3 : Below w.heap.size w w3 := (B2.alloc B2.size _).trans (hb3.mono B2.size)
  have hb3' : Below w2.heap.size w2 w3 := ((Below.refl _ _).alloc (Nat.le_refl _) _).trans hb3
  have t3 := t2.below hb3' t2l
  have z3 := z2.below hb3' (by omega)
  have hownc3 := hown2.kept hb3'
  clear hb3 hg3 hl2 c47 t2 z2 hown2 B2 HTH HI5 HO5 HW2
  obtain ⟨A3, n3, c3, rfl, -, -, -⟩ := hown3.sl
  have cc := (t3.cell 47).trans (show M.toArray[47]? = some (.slice Al m cl) by simpa using H47'.out)
  have ff := t3.frozen 47
  have hlt := t3.lt
  have t4 := t3.set_ 47 (.slice A3 n3 c3)
  rw [List.setIfInBounds_toArray, HSET.out] at t4
  have z4 := z3.far (p := ⟨w.heap.size, 47, none⟩) (by simp) (.slice A3 n3 c3)
  have B4 := B3.setCell (p := ⟨w.heap.size, 47, none⟩) (Nat.le_refl _) (.slice A3 n3 c3)
  have hownc4 : OwnC _ (w.heap.size + 2) _ R.cavs := own_setCell_far hownc3 (p := ⟨w.heap.size, 47, none⟩) (own_blk_ne hownc3 t3 (by decide)) (.slice A3 n3 c3)
  have hownb4 : OwnB _ w2.heap.size _ R.leaf := own_setCell_far hown3 (p := ⟨w.heap.size, 47, none⟩) (own_blk_ne hown3 t3 (by decide)) (.slice A3 n3 c3)
  have hlen4 := reqv_len R (.slice A1 n1 c1) (.slice A3 n3 c3) ht
  have hone4 := reqv_one R (.slice A1 n1 c1) (.slice A3 n3 c3) rfl rfl
  obtain ⟨N, hN⟩ : ∃ N, reqv R (.slice A1 n1 c1) (.slice A3 n3 c3) = N := ⟨_, rfl⟩
  rw [hN] at t4 hlen4 hone4
  have HN := Lib.hid hN
  have HRG := Lib.hid (rangeAt_blk t4 0 N (fun j u h => by simpa using h))
  have HI := Lib.hid (show (Try.prog.info? 31).map (·.size) = some N.length by rw [hlen4]; exact Try.req_info)
  have HL4 := Lib.hid hlen4
  have HO := Lib.hid (all_oneCell_toArray hone4)
  clear hN hlen4 hone4 HSET H47' t3 z3 hownc3 hown3 B3
  go_wp2_with (first
    | (refine load_mid_want rfl 31 (.tmp 1) rfl w.heap.size 0 rfl N _ HRG.out Try.underlying31 rfl HI.out ?_)
    | (refine wpList_store_row rfl 31 (.tmp 2) (.tmp 12) rfl (w.heap.size + 1) N.toArray rfl rfl 31 _ z4 (by simpa using HI.out) (by simp [HL4.out]) HO.out ?_))
  have z5 := z4.setRow N.toArray
  have HRZ := rangeAt_blk z5 0 N (fun j u h => by simpa using h)
  refine bodyPost_ret (v := .agg N.toArray) (results_cell rfl rfl (run_loadVar_mid _ _ 0 _ N _ HRZ Try.underlying31 rfl HI.out)) rfl ⟨_, _, by rw [← HN.out], ?_, ?_, below_setRow B4 (by omega) _⟩
  · exact own_mono (World.ownsRow.kept hownc4 (grown_setRow _ (w.heap.size + 1) N.toArray) (.inr (own_blk_ne hownc4 z4 (by decide)))) (by omega)
  · exact own_mono (World.ownsRow.kept hownb4 (grown_setRow _ (w.heap.size + 1) N.toArray) (.inr (own_blk_ne hownb4 z4 (by decide)))) (by omega)

end Go.Proofs.Ytbkdccamimakoaa
