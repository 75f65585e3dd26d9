/-
  Rows: a slice of the program's own wherever it begins in its block, with what append does to it, to the letter: written behind its end, or laid anew. Plain lemmas over the kit's AppendSrc.
-/
import Derived.Test.YtamhggndcegndaaDoorWords
import Derived.Deep.AppendSrc
import Derived.Laws.Rows
namespace Go.Proofs.YtamhggndcegndaaDoor
open Go.RowKit
set_option linter.unusedVariables false

/-- n elements of some size, laid in a block that nobody has marked; they read xs; there is room up to the capacity. -/
def Row (w : World) (v : Value) (e : TypeId) (size n : Nat) (xs : List Value) : Prop :=
  xs.length = n * size ∧ ((v = .slice none 0 0 ∧ n = 0) ∨
    ∃ (g o c : Nat) (cur : List Value), v = .slice (some ⟨g, o, none⟩) n c ∧ Blk w g e cur.toArray ∧ n ≤ c ∧ c ≤ maxLen ∧ o + c * size ≤ cur.length ∧ (cur.drop o).take (n * size) = xs)

/-- Some cells of a list written over. -/
def over (l : List Value) (o : Nat) (cs : List Value) : List Value := l.take o ++ (cs ++ l.drop (o + cs.length))

theorem over_length {l cs : List Value} {o : Nat} (h : o + cs.length ≤ l.length) : (over l o cs).length = l.length := by
  unfold over
  simp only [List.length_append, List.length_take, List.length_drop]
  omega

theorem over_nil (l : List Value) (o : Nat) : over l o [] = l := by simp [over]

theorem blk_setCells {g : Nat} {t : TypeId} : ∀ (cs : List Value) (o : Nat) (w : World) (l : List Value), Blk w g t l.toArray → o + cs.length ≤ l.length → Blk (w.setCells g o cs) g t (over l o cs).toArray
  | [], o, w, l, h, _ => by simpa [World.setCells, over] using h
  | v :: r, o, w, l, h, hl => by
    have h1 := h.set_ o v
    rw [List.setIfInBounds_toArray] at h1
    have h2 := blk_setCells r (o + 1) _ _ h1 (by simp at hl ⊢; omega)
    rw [World.setCells]
    have ho : o < l.length := by simp at hl; omega
    have e : over (l.set o v) (o + 1) r = over l o (v :: r) := by
      unfold over
      rw [List.take_succ_eq_append_getElem (by simpa using ho), List.take_set_of_le (Nat.le_refl o), List.getElem_set_self, List.drop_set_of_lt (by omega)]
      simp [Nat.add_assoc, Nat.add_comm 1]
    rw [e] at h2
    exact h2

theorem grown_setCells' (g : Nat) : ∀ (cs : List Value) (o : Nat) (w : World), w.grownBy (w.setCells g o cs) (some g)
  | [], _, w => World.grownBy.refl w _
  | v :: r, o, w => by
    have h1 := only_setCell (World.grownBy.refl w (some g)) (p := ⟨g, o, none⟩) (.inl rfl) v
    have h2 := grown_setCells' g r (o + 1) (w.setCell ⟨g, o, none⟩ v)
    rw [World.setCells]
    exact ⟨h2.os.trans h1.os, h2.tape.trans h1.tape, h2.output.trans h1.output, Nat.le_trans h1.size h2.size, fun i hi hne => (h2.block i (Nat.lt_of_lt_of_le hi h1.size) hne).trans (h1.block i hi hne)⟩

theorem over_before {l cs : List Value} {o p n : Nat} (h : o + n ≤ p) (hp : p ≤ l.length) : ((over l p cs).drop o).take n = (l.drop o).take n := by
  unfold over
  rw [List.drop_append_of_le_length (by rw [List.length_take]; omega), List.drop_take, List.take_append_of_le_length (by rw [List.length_take, List.length_drop]; omega), List.take_take, Nat.min_eq_left (by omega)]

theorem over_behind {l cs xs : List Value} {o k : Nat} (hx : (l.drop o).take k = xs) (hk : xs.length = k) (hl : o + k + cs.length ≤ l.length) : ((over l (o + k) cs).drop o).take (k + cs.length) = xs ++ cs := by
  unfold over
  have h1 : (l.take (o + k)).drop o = xs := by rw [List.drop_take, show o + k - o = k by omega]; exact hx
  rw [List.drop_append_of_le_length (by rw [List.length_take]; omega), h1, List.take_append, List.take_of_length_le (by omega), hk, show k + cs.length - k = cs.length by omega, List.take_left' rfl]

section
variable {w w' : World} {v : Value} {e : TypeId} {size n : Nat} {xs : List Value}

theorem Row.nil (w : World) (e : TypeId) (size : Nat) : Row w (.slice none 0 0) e size 0 [] := ⟨by simp, .inl ⟨rfl, rfl⟩⟩

theorem Row.of_own {base : Nat} (h : w.ownsRow base e size v n xs) : Row w v e size n xs := by
  refine ⟨h.1, ?_⟩
  rcases h.2 with h0 | ⟨g, cap, cur, hv, _, hg, hn, hc, hs, ht⟩
  · exact .inl h0
  · exact .inr ⟨g, 0, cap, cur.toList, hv, by simpa [Blk] using hg, hn, hc, by simp [hs], by simpa using ht⟩

theorem Row.form (h : Row w v e size n xs) (hn : 0 < n) : ∃ (g o c : Nat) (cur : List Value), v = .slice (some ⟨g, o, none⟩) n c ∧ Blk w g e cur.toArray ∧ n ≤ c ∧ c ≤ maxLen ∧ o + c * size ≤ cur.length ∧ (cur.drop o).take (n * size) = xs := by
  rcases h.2 with ⟨_, h0⟩ | h1
  · omega
  · exact h1

theorem Row.slice (h : Row w v e size n xs) : ∃ A c, v = .slice A n c ∧ n ≤ c ∧ c ≤ maxLen ∧ Reads w w.heap.size size A n xs := by
  rcases h.2 with ⟨rfl, rfl⟩ | ⟨g, o, c, cur, rfl, hb, hn, hc, hl, ht⟩
  · exact ⟨none, 0, rfl, Nat.le_refl _, by simp [maxLen], ⟨by simpa using h.1, fun h => absurd h (by omega)⟩⟩
  · refine ⟨_, c, rfl, hn, hc, h.1, fun _ => ⟨_, rfl, hb.lt, fun j u hu => ?_⟩⟩
    rw [Addr.add_mid, hb.cell, List.getElem?_toArray]
    rw [← ht, List.getElem?_take] at hu
    split at hu
    · rwa [List.getElem?_drop] at hu
    · cases hu

theorem Row.lt (h : Row w v e size n xs) : ∀ g, v.ownBlock = some g → g < w.heap.size := by
  intro g hg
  rcases h.2 with ⟨rfl, _⟩ | ⟨g', o, c, cur, rfl, hb, _⟩
  · cases hg
  · simp [Value.ownBlock] at hg
    subst hg
    exact hb.lt

theorem Row.keptBlock (h : Row w v e size n xs) (hk : ∀ g, v.ownBlock = some g → w'.heap[g]? = w.heap[g]?) : Row w' v e size n xs := by
  refine ⟨h.1, ?_⟩
  rcases h.2 with h0 | ⟨g, o, c, cur, rfl, hb, rest⟩
  · exact .inl h0
  · exact .inr ⟨g, o, c, cur, rfl, (hk g rfl).trans hb, rest⟩

theorem Row.grown {row : Option Nat} (h : Row w v e size n xs) (hg : w.grownBy w' row) (hne : v.ownBlock = none ∨ v.ownBlock ≠ row) : Row w' v e size n xs :=
  h.keptBlock fun g hv => hg.block g (h.lt g hv) (fun er => by
    rcases hne with h0 | h0
    · rw [h0] at hv; cases hv
    · exact h0 (hv.trans er))

theorem Row.call (h : Row w v e size n xs) (hb : Below w.heap.size w w') : Row w' v e size n xs := h.keptBlock fun g hv => hb.block g (h.lt g hv)

theorem Row.below {B : Nat} (h : Row w v e size n xs) (hb : Below B w w') (hv : ∀ g, v.ownBlock = some g → g < B) : Row w' v e size n xs := h.keptBlock fun g hg => hb.block g (hv g hg)

theorem Row.drew (h : Row w v e size n xs) : Row w.drew v e size n xs := h.keptBlock fun _ _ => rfl

theorem Row.alloc (h : Row w v e size n xs) (o : Obj) : Row (w.alloc o) v e size n xs := h.call ((Below.refl _ _).alloc (Nat.le_refl _) o)

/-- Cells written behind a row's end, in its own block: the row reads as it did. -/
theorem Row.behind {g o c p : Nat} {cs : List Value} (h : Row w (.slice (some ⟨g, o, none⟩) n c) e size n xs) (hp : o + n * size ≤ p) (hfit : ∀ cur : List Value, Blk w g e cur.toArray → p + cs.length ≤ cur.length) : Row (w.setCells g p cs) (.slice (some ⟨g, o, none⟩) n c) e size n xs := by
  refine ⟨h.1, ?_⟩
  rcases h.2 with ⟨h0, _⟩ | ⟨g', o', c', cur, hv, hb, hn, hc, hl, ht⟩
  · cases h0
  · injection hv with e1 e2 e3
    injection e1 with e1
    injection e1 with e1 e4
    subst e1 e3 e4
    have hf := hfit cur hb
    exact .inr ⟨g, o, c, over cur p cs, rfl, blk_setCells cs p w cur hb hf, hn, hc, by rw [over_length hf]; exact hl, by rw [over_before hp (by omega)]; exact ht⟩
end

section
variable {P : Program} (w : World)

theorem run_append_row (t tx ty e : TypeId) (i : TypeInfo) (z : Value) (size bytes : Nat) (ht : P.underlying t = some (.slice e)) (hi : P.info? e = some i) (hz : i.zero = some z)
    (hsize : i.size = size) (hby : i.bytes = bytes) (hzs : z.cells.size = size)
    (v : Value) (n : Nat) (xs : List Value) (hrow : Row w v e size n xs) (x : Value) (m : Nat) (news : List Value) (hsrc : Src P size tx x m news w)
    (h63 : n + m ≤ maxLen) (hbytes : (n + m) * bytes ≤ 140737488355328) :
    (m = 0 ∧ v = .slice none 0 0 ∧ (Builtin.append_ #[t, tx] ty #[v, x]).run P w = .ok v w) ∨
    (∃ (g o c : Nat) (cur : List Value), v = .slice (some ⟨g, o, none⟩) n c ∧ n + m ≤ c ∧ Blk w g e cur.toArray ∧ o + n * size + news.length ≤ cur.length ∧
      (Builtin.append_ #[t, tx] ty #[v, x]).run P w = .ok (.slice (some ⟨g, o, none⟩) (n + m) c) (w.setCells g (o + n * size) news) ∧ Row (w.setCells g (o + n * size) news) (.slice (some ⟨g, o, none⟩) (n + m) c) e size (n + m) (xs ++ news)) ∨
    (∃ (c' : Nat) (cs : List Value), n + m ≤ c' ∧ c' ≤ maxLen ∧ cs.length = c' * size ∧ cs.take ((n + m) * size) = xs ++ news ∧
      (Builtin.append_ #[t, tx] ty #[v, x]).run P w = .ok (.slice (some ⟨w.heap.size, 0, none⟩) (n + m) c') (w.drew.alloc (.cells cs.toArray e)) ∧ Row (w.drew.alloc (.cells cs.toArray e)) (.slice (some ⟨w.heap.size, 0, none⟩) (n + m) c') e size (n + m) (xs ++ news)) := by
  subst hsize
  subst hby
  have hl := hsrc.newsLen
  have hlen : (xs ++ news).length = (n + m) * i.size := by rw [List.length_append, hrow.1, hl, Nat.add_mul]
  have grow : ∀ (base : Option Addr) (c : Nat), c < n + m → (Builtin.firstCells i.size n (.slice base n c)).run P w.drew = .ok xs.toArray w.drew →
      ∃ (c' : Nat) (cs : List Value), n + m ≤ c' ∧ c' ≤ maxLen ∧ cs.length = c' * i.size ∧ cs.take ((n + m) * i.size) = xs ++ news ∧
      (Builtin.append_ #[t, tx] ty #[.slice base n c, x]).run P w = .ok (.slice (some ⟨w.heap.size, 0, none⟩) (n + m) c') (w.drew.alloc (.cells cs.toArray e)) ∧ Row (w.drew.alloc (.cells cs.toArray e)) (.slice (some ⟨w.heap.size, 0, none⟩) (n + m) c') e i.size (n + m) (xs ++ news) := by
    intro base c hc hold
    have hge := grownCap_ge w (n + m) c e
    have hcm : grownCap w (n + m) c e ≤ maxLen := grownCap_le_maxLen w (n + m) c e h63
    have hr := run_append_grow_src (P := P) w t tx ty e i z ht hi hz base n c xs hold x m news hsrc hc (by simp only [maxLen] at h63; omega) (growslice_fits hc hbytes)
    obtain ⟨Z, hZ⟩ : ∃ Z : List Value, Z.toArray = Builtin.zeroCells z.cells (grownCap w (n + m) c e - (n + m)) := ⟨_, Array.toArray_toList⟩
    have hZl : Z.length = (grownCap w (n + m) c e - (n + m)) * i.size := by
      have := congrArg Array.size hZ
      rw [size_zeroCells, hzs, List.size_toArray] at this
      exact this
    rw [← hZ, List.append_toArray] at hr
    have hcl : (xs ++ news ++ Z).length = grownCap w (n + m) c e * i.size := by
      rw [List.length_append, hlen, hZl, ← Nat.add_mul]
      congr 1
      omega
    have htk : (xs ++ news ++ Z).take ((n + m) * i.size) = xs ++ news := by rw [← hlen]; exact List.take_left
    refine ⟨_, xs ++ news ++ Z, hge, hcm, hcl, htk, hr, hlen, .inr ⟨w.heap.size, 0, _, _, rfl, Blk.new w.drew e _, hge, hcm, by rw [hcl]; omega, by rw [List.drop_zero]; exact htk⟩⟩
  rcases hrow.2 with ⟨rfl, rfl⟩ | ⟨g, o, c, cur, rfl, hb, hnc, hcm, hol, htake⟩
  · have hx : xs = [] := List.eq_nil_of_length_eq_zero (by simpa using hrow.1)
    subst hx
    by_cases hm : m = 0
    · subst hm
      have hn : news = [] := List.eq_nil_of_length_eq_zero (by simpa using hl)
      subst hn
      refine .inl ⟨rfl, rfl, ?_⟩
      have hc := hsrc.cells
      have hlo := hsrc.len w
      rcases hsrc.kind with ⟨e', hk⟩ | hk <;> simp [Builtin.append_, run_underlying ht, run_underlying hk, sizeOf, typeInfo, hi, hlo, hc, storeCells]
    · exact .inr (.inr (grow none 0 (by omega) (run_firstCells_none w.drew i.size 0 0 0)))
  · by_cases hroom : n + m ≤ c
    · have hfit : o + n * i.size + news.length ≤ cur.length := by
        have h2 : (n + m) * i.size ≤ c * i.size := Nat.mul_le_mul_right _ hroom
        rw [Nat.add_mul] at h2
        omega
      have hr := run_append_room_src (P := P) w t tx ty e i ht hi g o n c x m news hsrc hroom (fun j hj => by rw [hb.cell, List.getElem?_toArray, List.getElem?_eq_getElem (by omega)]; rfl) (fun j _ => hb.frozen _)
      refine .inr (.inl ⟨g, o, c, cur, rfl, hroom, hb, hfit, hr, hlen, .inr ⟨g, o, c, over cur (o + n * i.size) news, rfl, blk_setCells news _ w cur hb hfit, hroom, hcm, by rw [over_length hfit]; exact hol, ?_⟩⟩)
      have := over_behind (cs := news) htake hrow.1 hfit
      rw [hl, ← Nat.add_mul] at this
      exact this
    · refine .inr (.inr (grow (some ⟨g, o, none⟩) c (by omega) ?_))
      refine run_firstCells_some w.drew i.size n ⟨g, o, none⟩ n c xs hrow.1 (fun j u hu => ?_)
      rw [World.cell?_drew, Addr.add_mid, hb.cell, List.getElem?_toArray]
      rw [← htake, List.getElem?_take] at hu
      split at hu
      · rwa [List.getElem?_drop] at hu
      · cases hu

/-- What came of an append, for whoever looks no closer: a row with what was there and what is new; every row that lay elsewhere, and this one as it was, read as before. -/
structure Appended (w w' : World) (v v' : Value) (e : TypeId) (size n m : Nat) (xs news : List Value) : Prop where
  row : Row w' v' e size (n + m) (xs ++ news)
  old : Row w' v e size n xs
  only : w.grownBy w' v.ownBlock
  at_ : v'.ownBlock = v.ownBlock ∨ v'.ownBlock = some w.heap.size

theorem run_appended (t tx ty e : TypeId) (i : TypeInfo) (z : Value) (size bytes : Nat) (ht : P.underlying t = some (.slice e)) (hi : P.info? e = some i) (hz : i.zero = some z)
    (hsize : i.size = size) (hby : i.bytes = bytes) (hzs : z.cells.size = size)
    (v : Value) (n : Nat) (xs : List Value) (hrow : Row w v e size n xs) (x : Value) (m : Nat) (news : List Value) (hsrc : Src P size tx x m news w)
    (h63 : n + m ≤ maxLen) (hbytes : (n + m) * bytes ≤ 140737488355328) :
    ∃ v' w', (Builtin.append_ #[t, tx] ty #[v, x]).run P w = .ok v' w' ∧ Appended w w' v v' e size n m xs news := by
  rcases run_append_row (P := P) w t tx ty e i z size bytes ht hi hz hsize hby hzs v n xs hrow x m news hsrc h63 hbytes with ⟨rfl, rfl, hr⟩ | ⟨g, o, c, cur, rfl, hc, hb, hf, hr, hrw⟩ | ⟨c', cs, hc, hm, hl, htk, hr, hrw⟩
  · have hn : news = [] := List.eq_nil_of_length_eq_zero (by simpa using hsrc.newsLen)
    subst hn
    exact ⟨_, _, hr, by simpa using hrow, hrow, World.grownBy.refl w _, .inl rfl⟩
  · refine ⟨_, _, hr, hrw, hrow.behind (Nat.le_refl _) (fun cur' h' => ?_), grown_setCells' g news _ w, .inl rfl⟩
    have : cur' = cur := by
      unfold Blk at hb h'
      rw [hb] at h'
      injection h' with h'
      injection h' with h'
      simpa using h'.symm
    rw [this]
    exact hf
  · exact ⟨_, _, hr, hrw, (hrow.drew).alloc _, ⟨rfl, rfl, rfl, by simp, fun k hk _ => Below.heap_alloc w.drew _ k hk⟩, .inr rfl⟩

theorem wp_append_row {o : Oper} {a : Act} {K : Act → World → Prop} {Q : Exit → Act → World → Prop} (s x : Operand) (t tx : TypeId)
    (ho : o.op = .call { callee := .builtin .append, args := #[s, x], argTypes := #[t, tx] })
    (e : TypeId) (i : TypeInfo) (z : Value) (size bytes : Nat) (ht : P.underlying t = some (.slice e)) (hi : P.info? e = some i) (hz : i.zero = some z)
    (hsize : i.size = size) (hby : i.bytes = bytes) (hzs : z.cells.size = size)
    (v : Value) (n : Nat) (xs : List Value) (hs : a.eval s = v) (hrow : Row w v e size n xs) (xv : Value) (m : Nat) (news : List Value) (hx : a.eval x = xv) (hsrc : Src P size tx xv m news w)
    (h63 : n + m ≤ maxLen) (hbytes : (n + m) * bytes ≤ 140737488355328)
    (h : ∀ v' w', Appended w w' v v' e size n m xs news → K (a.put o.dst v') w') : o.wp P a w K Q := by
  obtain ⟨v', w', hrun, h2⟩ := run_appended (P := P) w t tx o.type e i z size bytes ht hi hz hsize hby hzs v n xs hrow xv m news hsrc h63 hbytes
  unfold Oper.wp execOp
  simp only [ho, resolve, invoke, builtin, Sem.run_bind, Sem.run_pure, Result.andThen_ok, List.map_toArray, List.map_cons, List.map_nil, hs, hx, hrun]
  exact h v' w' h2

theorem wpList_append_row {ops : Array Oper} {rest : List Oper} {o : Oper} {a : Act} {Q : Exit → Act → World → Prop} (hgd : o.guard = none) (s x : Operand) (t tx : TypeId)
    (ho : o.op = .call { callee := .builtin .append, args := #[s, x], argTypes := #[t, tx] })
    (e : TypeId) (i : TypeInfo) (z : Value) (size bytes : Nat) (ht : P.underlying t = some (.slice e)) (hi : P.info? e = some i) (hz : i.zero = some z)
    (hsize : i.size = size) (hby : i.bytes = bytes) (hzs : z.cells.size = size)
    (v : Value) (n : Nat) (xs : List Value) (hs : a.eval s = v) (hrow : Row w v e size n xs) (xv : Value) (m : Nat) (news : List Value) (hx : a.eval x = xv) (hsrc : Src P size tx xv m news w)
    (h63 : n + m ≤ maxLen) (hbytes : (n + m) * bytes ≤ 140737488355328)
    (h : ∀ v' w', Appended w w' v v' e size n m xs news → wpList P ops Q rest (a.put o.dst v') w') : wpList P ops Q (o :: rest) a w :=
  wpList_plain hgd fun _ hK => wp_append_row w s x t tx ho e i z size bytes ht hi hz hsize hby hzs v n xs hs hrow xv m news hx hsrc h63 hbytes fun v' w' h2 => hK _ _ (h v' w' h2)

/-- What reads is a source. -/
theorem Src.reads {size : Nat} {tx e' : TypeId} (hk : P.underlying tx = some (.slice e')) {B : Nat} {A : Option Addr} {m c : Nat} {news : List Value} (hr : Reads w B size A m news) (h1 : ∀ u ∈ news, u.oneCell' = true) (hs : 0 < size) : Src P size tx (.slice A m c) m news w := by
  rcases A with _ | ad
  · have hm : m = 0 := by
      rcases Nat.eq_zero_or_pos m with h0 | h0
      · exact h0
      · obtain ⟨ad, h, _⟩ := hr.2 h0
        cases h
    subst hm
    have hn : news = [] := List.eq_nil_of_length_eq_zero (by simpa using hr.1)
    subst hn
    exact Src.ofNil w hk c
  · refine Src.ofSlice w hk ad m c news hr.1 ?_ h1
    intro j u hu
    rcases Nat.eq_zero_or_pos m with h0 | h0
    · subst h0
      have hn : news = [] := List.eq_nil_of_length_eq_zero (by simpa using hr.1)
      subst hn
      simp at hu
    · obtain ⟨ad', h, _, hc⟩ := hr.2 h0
      injection h with h
      subst h
      exact hc j u hu
end

end Go.Proofs.YtamhggndcegndaaDoor
