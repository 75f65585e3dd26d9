/-
  deponentbook.Book of caveats: what it keeps; Stays.
-/
import Derived.Test.YtamhggndcegndaaDoorRow
import Derived.Test.YtamhggndcegndaaDoorSameT
import Derived.Test.YtamhggndcegndaaDoorAny
import Derived.Test.YtamhggndcegndaaDoorNarsP
namespace Go.Proofs.YtamhggndcegndaaDoor
open Go.RowKit
set_option linter.unusedVariables false
set_option maxRecDepth 100000

theorem Tryd.cavs_info : (Tryd.prog.info? 23).map (fun i => (i.zero, i.size, i.bytes)) = some (some (.slice none 0 0), 1, 24) := by kernel_rfl

/-- What a book keeps: a list, what it reads, and the copy of it. -/
structure KIt where
  v : Value
  l : List (Int × Nat)
  wv : Value

structure KOk (w : World) (B : Nat) (its : List KIt) : Prop where
  own : ∀ it ∈ its, OwnC w B it.v it.l
  was : ∀ it ∈ its, OwnC w B it.wv it.l
  ne : ∀ it ∈ its, 0 < it.l.length ∧ it.l.length ≤ 8
  nodup : (its.map fun it => it.v.ownBlock).Nodup

/-- Blocks of other kinds than a book's are as they were. -/
def Kinds (w w' : World) : Prop := ∀ (k : Nat) (t : TypeId) (cs : Array Value), Blk w k t cs → t ≠ 55 → t ≠ 23 → Blk w' k t cs

theorem Kinds.refl (w : World) : Kinds w w := fun _ _ _ h _ _ => h
theorem Kinds.trans {a b c : World} (h : Kinds a b) (k : Kinds b c) : Kinds a c := fun i t cs hb h1 h2 => k i t cs (h i t cs hb h1 h2) h1 h2
theorem Kinds.below {w w' : World} (h : Below w.heap.size w w') : Kinds w w' := fun _ _ _ hb _ _ => hb.below h hb.lt
theorem Kinds.grown {w w' : World} {g : Nat} {t : TypeId} {cs : Array Value} (h : w.grownBy w' (some g)) (hg : Blk w g t cs) (ht : t = 55 ∨ t = 23) : Kinds w w' := fun k t' cs' hb h1 h2 =>
  hb.grown h (fun e => by
    injection e with e
    subst e
    have := Blk.ne_ (t := t') hb hg (by rintro rfl; rcases ht with rfl | rfl <;> contradiction)
    exact this rfl)

theorem OwnC.kinds {w w' : World} {B : Nat} {v : Value} {l : List (Int × Nat)} (h : OwnC w B v l) (hk : Kinds w w') : OwnC w' B v l := by
  refine ⟨h.1, ?_⟩
  rcases h.2 with h0 | ⟨g, cap, cur, hv, hb, hg, rest⟩
  · exact .inl h0
  · exact .inr ⟨g, cap, cur, hv, hb, hk g 37 cur hg (by decide) (by decide), rest⟩

theorem KOk.kinds {w w' : World} {B : Nat} {its : List KIt} (h : KOk w B its) (hk : Kinds w w') : KOk w' B its :=
  ⟨fun it hi => (h.own it hi).kinds hk, fun it hi => (h.was it hi).kinds hk, h.ne, h.nodup⟩

theorem KOk.nil (w : World) (B : Nat) : KOk w B [] := ⟨fun _ h => (nomatch h), fun _ h => (nomatch h), fun _ h => (nomatch h), List.nodup_nil⟩

theorem KOk.tail {w : World} {B : Nat} {its : List KIt} (h : KOk w B its) : KOk w B its.tail :=
  ⟨fun it hi => h.own it (List.mem_of_mem_tail hi), fun it hi => h.was it (List.mem_of_mem_tail hi), fun it hi => h.ne it (List.mem_of_mem_tail hi), by
    have := h.nodup
    cases its with
    | nil => exact this
    | cons a l => exact (List.nodup_cons.1 this).2⟩

theorem KOk.snoc {w : World} {B : Nat} {its : List KIt} {it : KIt} (h : KOk w B its) (h1 : OwnC w B it.v it.l) (h2 : OwnC w B it.wv it.l) (h3 : 0 < it.l.length ∧ it.l.length ≤ 8) (h4 : ∀ x ∈ its, x.v.ownBlock ≠ it.v.ownBlock) : KOk w B (its ++ [it]) := by
  refine ⟨?_, ?_, ?_, ?_⟩
  · intro x hx
    rcases List.mem_append.1 hx with hx | hx
    · exact h.own x hx
    · obtain rfl := List.mem_singleton.1 hx; exact h1
  · intro x hx
    rcases List.mem_append.1 hx with hx | hx
    · exact h.was x hx
    · obtain rfl := List.mem_singleton.1 hx; exact h2
  · intro x hx
    rcases List.mem_append.1 hx with hx | hx
    · exact h.ne x hx
    · obtain rfl := List.mem_singleton.1 hx; exact h3
  · rw [List.map_append, List.nodup_append]
    refine ⟨h.nodup, by simp, ?_⟩
    intro a ha b hb
    obtain ⟨x, hx, rfl⟩ := List.mem_map.1 ha
    simp at hb
    subst hb
    exact h4 x hx

/-- Rows of lists are blocks of their kind. -/
theorem row_blk_ne {w : World} {v : Value} {e t : TypeId} {size n g : Nat} {xs : List Value} {cs : Array Value} (h : Row w v e size n xs) (hg : Blk w g t cs) (hne : e ≠ t) : v.ownBlock ≠ some g := by
  rcases h.2 with ⟨rfl, _⟩ | ⟨g', o, c, cur, rfl, hb, _⟩
  · simp [Value.ownBlock]
  · intro he
    have : g' = g := by simpa [Value.ownBlock] using he
    subst this
    exact Blk.ne_ (t := e) hb hg hne rfl

/-- The book's own block, and its two rows. -/
structure BookAt (w : World) (B gb : Nat) (v1 v2 : Value) (h : Int) (its : List KIt) : Prop where
  blk : Blk w gb 55 #[v1, v2, .int .i64 h, .bool false]
  le : B ≤ gb
  r1 : Row w v1 23 1 its.length (its.map KIt.v)
  r2 : Row w v2 23 1 its.length (its.map KIt.wv)
  b1 : ∀ g, v1.ownBlock = some g → B ≤ g
  b2 : ∀ g, v2.ownBlock = some g → B ≤ g
  ap : ∀ g, v1.ownBlock = some g → v2.ownBlock ≠ some g
  ok : KOk w B its

theorem BookAt.below {w w' : World} {B gb : Nat} {v1 v2 : Value} {h : Int} {its : List KIt} (hb : BookAt w B gb v1 v2 h its) (h' : Below w.heap.size w w') : BookAt w' B gb v1 v2 h its :=
  ⟨hb.blk.below h' hb.blk.lt, hb.le, hb.r1.call h', hb.r2.call h', hb.b1, hb.b2, hb.ap, hb.ok.kinds (Kinds.below h')⟩

/-- The book's cells written, its rows as they are. -/
theorem BookAt.same {w : World} {B gb : Nat} {v1 v2 : Value} {h : Int} {its : List KIt} (hb : BookAt w B gb v1 v2 h its) : BookAt (w.setCell ⟨gb, 3, none⟩ (.bool false)) B gb v1 v2 h its := by
  have hg : w.grownBy (w.setCell ⟨gb, 3, none⟩ (.bool false)) (some gb) := only_setCell (World.grownBy.refl w (some gb)) (.inl rfl) _
  exact ⟨hb.blk.set_ 3 (.bool false), hb.le, hb.r1.grown hg (.inr (row_blk_ne hb.r1 hb.blk (by decide))), hb.r2.grown hg (.inr (row_blk_ne hb.r2 hb.blk (by decide))), hb.b1, hb.b2, hb.ap, hb.ok.kinds (Kinds.grown hg hb.blk (.inl rfl))⟩

theorem BookAt.at_ {w : World} {B gb : Nat} {v1 v2 : Value} {h : Int} {its : List KIt} (hb : BookAt w B gb v1 v2 h its) {k : Nat} (hk : k < its.length) :
    ∃ (g1 o1 c1 g2 o2 c2 : Nat) (it : KIt), v1 = .slice (some ⟨g1, o1, none⟩) its.length c1 ∧ v2 = .slice (some ⟨g2, o2, none⟩) its.length c2 ∧ its[k]? = some it ∧ w.cell? ⟨g1, o1 + k, none⟩ = some it.v ∧ w.cell? ⟨g2, o2 + k, none⟩ = some it.wv ∧ g1 < w.heap.size ∧ g2 < w.heap.size := by
  obtain ⟨g1, o1, c1, cur1, e1, hb1, hn1, hc1, hl1, ht1⟩ := hb.r1.form (by omega)
  obtain ⟨g2, o2, c2, cur2, e2, hb2, hn2, hc2, hl2, ht2⟩ := hb.r2.form (by omega)
  have hi : its[k]? = some its[k] := List.getElem?_eq_getElem hk
  refine ⟨g1, o1, c1, g2, o2, c2, its[k], e1, e2, hi, ?_, ?_, hb1.lt, hb2.lt⟩
  · have h1 : (its.map KIt.v)[k]? = some its[k].v := by rw [List.getElem?_map, hi]; rfl
    have h2 := take_get ht1 h1
    rw [List.getElem?_drop] at h2
    rw [hb1.cell, List.getElem?_toArray, h2]
  · have h1 : (its.map KIt.wv)[k]? = some its[k].wv := by rw [List.getElem?_map, hi]; rfl
    have h2 := take_get ht2 h1
    rw [List.getElem?_drop] at h2
    rw [hb2.cell, List.getElem?_toArray, h2]

theorem appended_kinds {w w' : World} {v v' : Value} {size n m : Nat} {xs news : List Value} (h : Row w v 23 size n xs) (ap : Appended w w' v v' 23 size n m xs news) : Kinds w w' :=
  fun k t cs hb h1 h2 => hb.grown ap.only (fun e => row_blk_ne h hb (fun e => h2 e.symm) e.symm)

theorem wp_append_lists {w : World} {o : Oper} {a : Act} {K : Act → World → Prop} {Q : Exit → Act → World → Prop} (s x : Operand)
    (ho : o.op = .call { callee := .builtin .append, args := #[s, x], argTypes := #[53, 53] })
    (v : Value) (n : Nat) (xs : List Value) (hs : a.eval s = v) (hrow : Row w v 23 1 n xs) (A : Option Addr) (m c : Nat) (news : List Value) (hx : a.eval x = .slice A m c) (hr : Reads w w.heap.size 1 A m news) (h1 : ∀ u ∈ news, u.oneCell' = true)
    (hlen : n + m ≤ 1000000) (h : ∀ v' w', Appended w w' v v' 23 1 n m xs news → K (a.put o.dst v') w') : o.wp Tryd.prog a w K Q := by
  obtain ⟨i0, hi0, hz0, hz1, hz2⟩ := info_parts Tryd.cavs_info
  exact wp_append_row (P := Tryd.prog) w s x _ _ ho 23 i0 _ 1 24 Tryd.underlying53 hi0 hz0 hz1 hz2 rfl v n xs hs hrow _ m news hx (Src.reads w Tryd.underlying53 hr h1 (by decide)) (by simp only [maxLen]; omega) (by omega) h

theorem append_lists {w : World} {ops : Array Oper} {rest : List Oper} {o : Oper} {a : Act} {Q : Exit → Act → World → Prop} (hgd : o.guard = none) (s x : Operand)
    (ho : o.op = .call { callee := .builtin .append, args := #[s, x], argTypes := #[53, 53] })
    (v : Value) (n : Nat) (xs : List Value) (hs : a.eval s = v) (hrow : Row w v 23 1 n xs) (A : Option Addr) (m c : Nat) (news : List Value) (hx : a.eval x = .slice A m c) (hr : Reads w w.heap.size 1 A m news) (h1 : ∀ u ∈ news, u.oneCell' = true)
    (hlen : n + m ≤ 1000000) (h : ∀ v' w', Appended w w' v v' 23 1 n m xs news → wpList Tryd.prog ops Q rest (a.put o.dst v') w') : wpList Tryd.prog ops Q (o :: rest) a w :=
  wpList_plain hgd fun _ hK => wp_append_lists s x ho v n xs hs hrow A m c news hx hr h1 hlen fun v' w' h2 => hK _ _ (h v' w' h2)

theorem apart_or {v1 v2 : Value} (h : ∀ g, v1.ownBlock = some g → v2.ownBlock ≠ some g) : v2.ownBlock = none ∨ v2.ownBlock ≠ v1.ownBlock := by
  cases e : v2.ownBlock with
  | none => exact .inl rfl
  | some b => exact .inr fun h' => h b h'.symm e

/-- One of the book's cells written, its rows as they are. -/
theorem BookAt.held {w : World} {B gb : Nat} {v1 v2 : Value} {h : Int} {its : List KIt} (hb : BookAt w B gb v1 v2 h its) (h' : Int) : BookAt (w.setCell ⟨gb, 2, none⟩ (.int .i64 h')) B gb v1 v2 h' its := by
  have hg : w.grownBy (w.setCell ⟨gb, 2, none⟩ (.int .i64 h')) (some gb) := only_setCell (World.grownBy.refl w (some gb)) (.inl rfl) _
  exact ⟨hb.blk.set_ 2 (.int .i64 h'), hb.le, hb.r1.grown hg (.inr (row_blk_ne hb.r1 hb.blk (by decide))), hb.r2.grown hg (.inr (row_blk_ne hb.r2 hb.blk (by decide))), hb.b1, hb.b2, hb.ap, hb.ok.kinds (Kinds.grown hg hb.blk (.inl rfl))⟩

theorem Row.tail1 {w : World} {e : TypeId} {g o r d : Nat} {x : Value} {xs : List Value} (h : Row w (.slice (some ⟨g, o, none⟩) (r + 1) (d + 1)) e 1 (r + 1) (x :: xs)) : Row w (.slice (some ⟨g, o + 1, none⟩) r d) e 1 r xs := by
  have h1 := h.1
  simp at h1
  refine ⟨by simpa using h1, ?_⟩
  rcases h.2 with ⟨h0, _⟩ | ⟨g', o', c', cur, hv, hb, hn, hc, hl, ht⟩
  · cases h0
  · injection hv with e1 e2 e3
    injection e1 with e1
    injection e1 with e1 e4
    subst e1 e4 e3
    refine .inr ⟨g, o + 1, d, cur, rfl, hb, by omega, by omega, by omega, ?_⟩
    have h2 : ((cur.drop o).take ((r + 1) * 1)).tail = xs := by rw [ht]; rfl
    rw [Nat.mul_one] at h2 ⊢
    rw [← h2, ← List.drop_one, List.drop_take, List.drop_drop, show r + 1 - 1 = r by omega]

theorem BookAt.drop {w : World} {B gb g1 o1 d1 g2 o2 d2 : Nat} {h : Int} {it : KIt} {its : List KIt}
    (hb : BookAt w B gb (.slice (some ⟨g1, o1, none⟩) (its.length + 1) (d1 + 1)) (.slice (some ⟨g2, o2, none⟩) (its.length + 1) (d2 + 1)) h (it :: its)) :
    BookAt ((w.setCell ⟨gb, 0, none⟩ (.slice (some ⟨g1, o1 + 1, none⟩) its.length d1)).setCell ⟨gb, 1, none⟩ (.slice (some ⟨g2, o2 + 1, none⟩) its.length d2)) B gb (.slice (some ⟨g1, o1 + 1, none⟩) its.length d1) (.slice (some ⟨g2, o2 + 1, none⟩) its.length d2) h its := by
  have hg : w.grownBy ((w.setCell ⟨gb, 0, none⟩ (.slice (some ⟨g1, o1 + 1, none⟩) its.length d1)).setCell ⟨gb, 1, none⟩ (.slice (some ⟨g2, o2 + 1, none⟩) its.length d2)) (some gb) :=
    only_setCell (only_setCell (World.grownBy.refl w (some gb)) (.inl rfl) _) (.inl rfl) _
  have h1 : Row w (.slice (some ⟨g1, o1 + 1, none⟩) its.length d1) 23 1 its.length (its.map KIt.v) := Row.tail1 (x := it.v) hb.r1
  have h2 : Row w (.slice (some ⟨g2, o2 + 1, none⟩) its.length d2) 23 1 its.length (its.map KIt.wv) := Row.tail1 (x := it.wv) hb.r2
  exact ⟨(hb.blk.set_ 0 _).set_ 1 _, hb.le, h1.grown hg (.inr (row_blk_ne h1 hb.blk (by decide))), h2.grown hg (.inr (row_blk_ne h2 hb.blk (by decide))), fun g e => hb.b1 g e, fun g e => hb.b2 g e, fun g e e' => hb.ap g e e', hb.ok.tail.kinds (Kinds.grown hg hb.blk (.inl rfl))⟩

theorem BookAt.cells {w : World} {B gb g1 o1 n1 c1 g2 o2 n2 c2 : Nat} {h : Int} {its : List KIt} {it : KIt} {k : Nat} (hb : BookAt w B gb (.slice (some ⟨g1, o1, none⟩) n1 c1) (.slice (some ⟨g2, o2, none⟩) n2 c2) h its) (hit : its[k]? = some it) :
    w.cell? ⟨g1, o1 + k, none⟩ = some it.v ∧ w.cell? ⟨g2, o2 + k, none⟩ = some it.wv ∧ g1 < w.heap.size ∧ g2 < w.heap.size := by
  have hk : k < its.length := by
    rcases Nat.lt_or_ge k its.length with h | h
    · exact h
    · rw [List.getElem?_eq_none h] at hit; cases hit
  obtain ⟨g1', o1', c1', g2', o2', c2', it', e1, e2, hi, m1, m2, l1, l2⟩ := hb.at_ hk
  injection e1 with e1 _ _
  injection e1 with e1
  injection e1 with e1 e3
  injection e2 with e2 _ _
  injection e2 with e2
  injection e2 with e2 e4
  subst e1 e3 e2 e4
  rw [hit] at hi
  injection hi with hi
  subst hi
  exact ⟨m1, m2, l1, l2⟩

theorem below_of_grown {w w' : World} {B : Nat} {row : Option Nat} (hg : w.grownBy w' row) (hB : B ≤ w.heap.size) (hr : ∀ g, row = some g → B ≤ g) : Below B w w' :=
  ⟨hg.os, hg.tape, hg.output, hg.size, fun k hk => hg.block k (by omega) (fun e => by have := hr k e.symm; omega)⟩

-- END BY HAND
set_option maxHeartbeats 2000000 in
theorem book_stays (B gb : Nat) (v1 v2 : Value) (h : Int) (its : List KIt) (w : World) (hB : BookAt w B gb v1 v2 h its) (hlen : its.length ≤ 4611686018427387903) :
    Calls Tryd.prog 56 #[.pointer (some ⟨gb, 0, none⟩)] w fun e w' => e = .returned (.bool true) ∧ BookAt w' B gb v1 v2 h its ∧ Below B w w' := by
  have HB := Lib.hid hB
  have c3 := hB.blk.cell 3
  clear hB
  go_enter Tryd.func56, Tryd.ntmps56
  go_wp2_with fail
  go_loopw [3] (fun i wr => ∃ k : Nat, k ≤ its.length ∧ i = .int .i64 k ∧ Hid (BookAt wr B gb v1 v2 h its) ∧ Hid (Below B w wr)) (fun i _ => its.length - (intOf i).toNat)
  case atStart => exact ⟨0, by omega, rfl, HB.out, Below.refl _ _⟩
  case round =>
    obtain ⟨k, hk, rfl, hb, hbe⟩ := hrel
    have k0 := hb.out.blk.cell 0
    have k1 := hb.out.blk.cell 1
    have k3 := hb.out.blk.cell 3
    have f3 := hb.out.blk.frozen 3
    rw [show (#[v1, v2, Value.int .i64 h, .bool false] : Array Value)[0]? = some v1 from rfl] at k0
    rw [show (#[v1, v2, Value.int .i64 h, .bool false] : Array Value)[1]? = some v2 from rfl] at k1
    rw [show (#[v1, v2, Value.int .i64 h, .bool false] : Array Value)[3]? = some (.bool false) from rfl] at k3
    by_cases hkn : k < its.length
    · obtain ⟨g1, o1, c1, g2, o2, c2, it, rfl, rfl, hit, m1, m2, lg1, lg2⟩ := hb.out.at_ hkn
      have hmem := List.mem_of_getElem? hit
      obtain ⟨A1, n1, d1, e1, en1, -, -, rd1⟩ := (hb.out.ok.own it hmem).sl
      obtain ⟨A2, n2, d2, e2, en2, -, -, rd2⟩ := (hb.out.ok.was it hmem).sl
      have hn := (hb.out.ok.ne it hmem).2
      rw [e1] at m1
      rw [e2] at m2
      rw [← en2] at en1
      subst en1
      have hn8 : n1 ≤ 8 := by omega
      clear en2 hn
      have qk : (k : Int) < its.length := by omega
      have lgb := hb.out.blk.lt
      obtain ⟨S, HS⟩ : ∃ S : World → Prop, Hid (∀ w', S w' = Below wr.heap.size wr w') := ⟨_, fun _ => rfl⟩
      have F0 : Hid (∀ w', S w' → w'.cell? ⟨gb, 0, none⟩ = some (.slice (some ⟨g1, o1, none⟩) its.length c1)) := fun w' h => by
        rw [HS.out] at h
        rw [h.cell (p := ⟨gb, 0, none⟩) lgb]; exact k0
      have F1 : Hid (∀ w', S w' → w'.cell? ⟨gb, 1, none⟩ = some (.slice (some ⟨g2, o2, none⟩) its.length c2)) := fun w' h => by
        rw [HS.out] at h
        rw [h.cell (p := ⟨gb, 1, none⟩) lgb]; exact k1
      have F3 : Hid (∀ w', S w' → w'.cell? ⟨gb, 3, none⟩ = some (.bool false)) := fun w' h => by
        rw [HS.out] at h
        rw [h.cell (p := ⟨gb, 3, none⟩) lgb]; exact k3
      have F4 : Hid (∀ w', S w' → w'.cell? ⟨g1, o1 + k, none⟩ = some (.slice A1 n1 d1)) := fun w' h => by
        rw [HS.out] at h
        rw [h.cell (p := ⟨g1, o1 + k, none⟩) lg1]; exact m1
      have F5 : Hid (∀ w', S w' → w'.cell? ⟨g2, o2 + k, none⟩ = some (.slice A2 n1 d2)) := fun w' h => by
        rw [HS.out] at h
        rw [h.cell (p := ⟨g2, o2 + k, none⟩) lg2]; exact m2
      have SM := same_cavs A1 A2 n1 d1 d2 it.l wr.drew rd1.drewS rd2.drewS (by omega)
      have HSM := Lib.hid SM
      clear SM e1 e2 m1 m2 rd1 rd2 k1 hmem hit c3
      go_wp2_with fail
      refine wp_region_seq S 25 [(0, false), (1, false), (2, false), (3, false), (4, false), (5, false), (6, false), (7, false), (8, false), (9, false), (10, false), (11, false), (12, false), (13, false), (14, false), (15, false), (16, false), (17, false), (18, false), (19, false), (20, true), (21, false), (22, false), (23, false), (24, false), (25, true)] (by kernel_rfl) rfl (by kernel_rfl) (by kernel_rfl) (by kernel_rfl) (fun _ _ d _ _ h => by cases d <;> exact h) ((HS.out _).mpr (Below.refl _ wr).drew) ?_
      iterate 20 (refine wpSeq_read rfl rfl ⟨?_, fun w1 hS => ?_, ?_⟩; rotate_left; (focus (have g0 := F0.out w1 hS; have g1 := F1.out w1 hS; have g3 := F3.out w1 hS; have g4 := F4.out w1 hS; have g5 := F5.out w1 hS; go_simp; try rfl)); simp only [Act.put, List.setIfInBounds_toArray, List.set_cons_zero, List.set_cons_succ])
      refine wpSeq_write rfl rfl ?_
      go_simp
      refine HSM.out.mono ?_
      rintro e w5 ⟨rfl, hb5⟩
      have b5 : Below wr.heap.size wr w5 := ⟨hb5.os, hb5.tape, hb5.output, hb5.size, hb5.block⟩
      have hb6 := hb.out.below b5
      have k35 := hb6.blk.cell 3
      have f35 := hb6.blk.frozen 3
      rw [show (#[Value.slice (some ⟨g1, o1, none⟩) its.length c1, Value.slice (some ⟨g2, o2, none⟩) its.length c2, Value.int .i64 h, .bool false] : Array Value)[3]? = some (.bool false) from rfl] at k35
      have HB6 := Lib.hid hb6
      have HBE := Lib.hid (hbe.out.trans (b5.mono (Nat.le_trans hb.out.le (Nat.le_of_lt hb.out.blk.lt))))
      have s5 : S w5 := (HS.out _).mpr b5
      clear hb6 b5 hb5 k0 k3 f3
      refine ⟨s5, ?_⟩
      try simp only [Act.put, List.setIfInBounds_toArray, List.set_cons_zero, List.set_cons_succ]
      iterate 4 (refine wpSeq_read rfl rfl ⟨?_, fun w1 hS => ?_, ?_⟩; rotate_left; (focus (go_simp; (try go_bits); try rfl)); simp only [Act.put, List.setIfInBounds_toArray, List.set_cons_zero, List.set_cons_succ])
      refine wpSeq_write rfl rfl ?_
      go_simp
      refine wpSeq_nil ?_
      go_wp2_with fail
      go_roundw
      case rel => exact ⟨k + 1, by omega, by go_num, HB6.out.same, HBE.out.setCell HB6.out.le _⟩
      case measure => simp [intOf]; omega
    · have qk : ¬ (k : Int) < its.length := by omega
      obtain ⟨A1, c1, rfl, -⟩ := hb.out.r1.slice
      go_wp2_with fail
      go_ret
      exact ⟨rfl, hb.out, hbe.out⟩

set_option maxHeartbeats 4000000 in
theorem book_keep (B gb : Nat) (v1 v2 : Value) (h : Int) (its : List KIt) (A : Option Addr) (n c : Nat) (l : List (Int × Nat)) (w : World) (hB : BookAt w B gb v1 v2 h its) (ho : OwnC w B (.slice A n c) l) (hl : 0 < l.length ∧ l.length ≤ 8)
    (hne : ∀ x ∈ its, x.v.ownBlock ≠ (Value.slice A n c).ownBlock) (hlen : its.length ≤ 1000) :
    Calls Tryd.prog 24 #[.pointer (some ⟨gb, 0, none⟩), .slice A n c] w fun e w' => e = .returned (.tuple #[]) ∧ ∃ v1' v2' h' its', BookAt w' B gb v1' v2' h' its' ∧ its'.length ≤ its.length + 1 ∧ (∀ x ∈ its', x ∈ its ∨ x.v = .slice A n c) ∧ Kinds w w' ∧ Below B w w' := by
  obtain ⟨A1, c1, rfl, -⟩ := hB.r1.slice
  obtain ⟨A2, c2, rfl, -⟩ := hB.r2.slice
  have lgb := hB.blk.lt
  have lB := hB.le
  have k0 := hB.blk.cell 0
  rw [show (#[Value.slice A1 its.length c1, .slice A2 its.length c2, Value.int .i64 h, .bool false] : Array Value)[0]? = some (.slice A1 its.length c1) from rfl] at k0
  have HB := Lib.hid hB
  have HO := Lib.hid ho
  have HL := Lib.hid hl
  have HNE := Lib.hid hne
  have hr0 : Reads (w.alloc (.cells #[.slice A n c] 23)) (w.alloc (.cells #[.slice A n c] 23)).heap.size 1 (some ⟨w.heap.size, 0, none⟩) 1 [.slice A n c] := by
    rw [alloc_size]
    exact Reads.new1 w _ _
  have HR0 := Lib.hid hr0
  clear hB ho hl hne hr0
  go_enter Tryd.func24, Tryd.ntmps24
  go_wp2_with (at_builtin; refine append_lists rfl (.tmp 8) (.tmp 10) rfl _ its.length (its.map KIt.v) rfl (HB.out.r1.alloc _) _ 1 1 [.slice A n c] rfl HR0.out (by intro u hu; simp at hu; subst hu; rfl) (by omega) ?_)
  intro v1' w1 ap1
  obtain ⟨A1', c1', rfl, -, -, -⟩ := ap1.row.slice
  have hra : Row (w.alloc (.cells #[.slice A n c] 23)) (.slice A1 its.length c1) 23 1 its.length (its.map KIt.v) := HB.out.r1.alloc _
  have hba := HB.out.blk.alloc (.cells #[.slice A n c] 23)
  have K1 : Kinds w w1 := (Kinds.below ((Below.refl _ _).alloc (Nat.le_refl _) _)).trans (appended_kinds hra ap1)
  have blk1 := hba.grown ap1.only (fun e => row_blk_ne hra hba (by decide) e.symm)
  have r21 := (HB.out.r2.alloc (.cells #[.slice A n c] 23)).grown ap1.only (apart_or HB.out.ap)
  have b1' : ∀ g, (Value.slice A1' (its.length + 1) c1').ownBlock = some g → B ≤ g := fun g e => by
    rcases ap1.at_ with h1 | h1
    · exact HB.out.b1 g (h1 ▸ e)
    · rw [h1] at e
      simp at e
      omega
  have ap' : ∀ g, (Value.slice A1' (its.length + 1) c1').ownBlock = some g → (Value.slice A2 its.length c2).ownBlock ≠ some g := fun g e e2 => by
    rcases ap1.at_ with h1 | h1
    · exact HB.out.ap g (h1 ▸ e) e2
    · rw [h1] at e
      have := HB.out.r2.lt g e2
      simp at e
      omega
  have B1 : Below B w w1 := ((Below.refl _ _).alloc (by omega) _).trans (below_of_grown ap1.only (by simp; omega) (fun g e => HB.out.b1 g e))
  have c10 := blk1.cell 0
  have f10 := blk1.frozen 0
  have hr1 := ap1.row
  have HR1 := Lib.hid hr1
  have HK1 := Lib.hid K1
  have HBL1 := Lib.hid blk1
  have HR21 := Lib.hid r21
  have HB1' := Lib.hid b1'
  have HAP' := Lib.hid ap'
  have HBB1 := Lib.hid B1
  clear hra hba K1 blk1 r21 b1' ap' B1 hr1 ap1 k0
  go_upto_region 1 with (fail)
  obtain ⟨w2, hw2⟩ : ∃ x, x = w1.setCell ⟨gb, 0, none⟩ (.slice A1' (its.length + 1) c1') := ⟨_, rfl⟩
  rw [← hw2]
  have g12 : w1.grownBy w2 (some gb) := by rw [hw2]; exact only_setCell (World.grownBy.refl w1 (some gb)) (.inl rfl) _
  have blk2 : Blk w2 gb 55 #[.slice A1' (its.length + 1) c1', .slice A2 its.length c2, .int .i64 h, .bool false] := by rw [hw2]; exact HBL1.out.set_ 0 _
  have r12 := HR1.out.grown g12 (.inr (row_blk_ne HR1.out HBL1.out (by decide)))
  have r22 := HR21.out.grown g12 (.inr (row_blk_ne HR21.out HBL1.out (by decide)))
  have K2 := HK1.out.trans (Kinds.grown g12 HBL1.out (.inl rfl))
  have B2 := HBB1.out.trans (below_of_grown g12 (Nat.le_trans (Nat.le_of_lt lgb |> Nat.le_trans lB) HBB1.out.size) (fun g e => by injection e with e; omega))
  have k1 := blk2.cell 1
  rw [show (#[Value.slice A1' (its.length + 1) c1', .slice A2 its.length c2, Value.int .i64 h, .bool false] : Array Value)[1]? = some (.slice A2 its.length c2) from rfl] at k1
  have HBL2 := Lib.hid blk2
  have HR12 := Lib.hid r12
  have HR22 := Lib.hid r22
  have HK2 := Lib.hid K2
  have HB2 := Lib.hid B2
  clear hw2 g12 blk2 r12 r22 K2 B2 c10 f10 HR1 HK1 HBL1 HR21 HBB1
  obtain ⟨S, HS⟩ : ∃ S : World → Prop, Hid (∀ w', S w' = (w'.cell? ⟨gb, 1, none⟩ = some (.slice A2 its.length c2))) := ⟨_, fun _ => rfl⟩
  refine wp_region_seq S 11 [(0, false), (1, false), (2, false), (3, false), (4, false), (5, false), (6, true), (7, true), (8, true), (9, false), (10, false), (11, true)] (by kernel_rfl) rfl (by kernel_rfl) (by kernel_rfl) (by kernel_rfl) (fun _ _ d _ _ h => by cases d <;> exact h) ((HS.out _).mpr (by simpa using k1)) ?_
  iterate 6 (refine wpSeq_read rfl rfl ⟨?_, fun w1 hS => ?_, ?_⟩; rotate_left; (focus (rw [HS.out] at hS; go_simp; try rfl)); simp only [Act.put, List.setIfInBounds_toArray, List.set_cons_zero, List.set_cons_succ])
  have hsz2 : B ≤ w2.drew.heap.size := by have := HB2.out.size; simp; omega
  refine wpSeq_write rfl rfl ?_
  refine wp_append_cavs (.const (.slice none 0 0)) (.tmp 19) rfl B _ [] rfl (OwnC.nil _ B) A n c l rfl (HO.out.kinds HK2.out).reads.drewS (by have := HL.out; have := (HO.out.reads).1; rw [cavv_length] at this; simp; omega) hsz2 ?_
  intro v3 w3 o3 b3 g3
  have b23 : Below w2.heap.size w2 w3 := ⟨g3.os, g3.tape, g3.output, g3.size, fun k hk => (show w2.drew.grownBy w3 none from g3).block k hk (by simp)⟩
  rw [List.nil_append] at o3
  obtain ⟨A3, n3, c3, rfl, -, -, -, -⟩ := o3.sl
  refine ⟨fun _ => (HS.out _).mpr ((b23.cell (p := ⟨gb, 1, none⟩) HBL2.out.lt).trans k1), ?_⟩
  try simp only [Act.put, List.setIfInBounds_toArray, List.set_cons_zero, List.set_cons_succ]
  obtain ⟨w4, hw4⟩ : ∃ x, x = w3.alloc (.cells #[.slice A3 n3 c3] 23) := ⟨_, rfl⟩
  have b24 : Below w2.heap.size w2 w4 := by rw [hw4]; exact b23.alloc b23.size _
  have o4 : OwnC w4 B (.slice A3 n3 c3) l := by rw [hw4]; exact o3.alloc _
  have rn4 : Reads w4 w4.heap.size 1 (some ⟨w3.heap.size, 0, none⟩) 1 [.slice A3 n3 c3] := by rw [hw4, alloc_size]; exact Reads.new1 w3 _ _
  have HW4 := Lib.hid hw4
  clear hw4
  refine wpSeq_write rfl rfl ?_
  go_simp
  rw [← HW4.out]
  refine ⟨(HS.out _).mpr ((b24.cell (p := ⟨gb, 1, none⟩) HBL2.out.lt).trans k1), ?_⟩
  try simp only [Act.put, List.setIfInBounds_toArray, List.set_cons_zero, List.set_cons_succ]
  have r24 := HR22.out.call b24
  refine wpSeq_write rfl rfl ?_
  refine wp_append_lists (.tmp 18) (.tmp 21) rfl _ its.length (its.map KIt.wv) rfl r24 _ 1 1 [.slice A3 n3 c3] rfl rn4 (by intro u hu; simp at hu; subst hu; rfl) (by omega) ?_
  intro v2' w5 ap2
  obtain ⟨A2', c2', rfl, -, -, -⟩ := ap2.row.slice
  have blk4 := HBL2.out.below b24 HBL2.out.lt
  have blk5 := blk4.grown ap2.only (fun e => row_blk_ne r24 blk4 (by decide) e.symm)
  have k15 := blk5.cell 1
  have f15 := blk5.frozen 1
  rw [show (#[Value.slice A1' (its.length + 1) c1', .slice A2 its.length c2, Value.int .i64 h, .bool false] : Array Value)[1]? = some (.slice A2 its.length c2) from rfl] at k15
  have K25 : Kinds w2 w5 := (Kinds.below b24).trans (appended_kinds r24 ap2)
  have r15 := (HR12.out.call b24).grown ap2.only (apart_or (fun g e e2 => HAP'.out g e2 e))
  have B25 : Below B w2 w5 := (b24.mono (Nat.le_trans (Nat.le_of_lt lgb |> Nat.le_trans lB) HB2.out.size)).trans (below_of_grown ap2.only (Nat.le_trans hsz2 b24.size) (fun g e => HB.out.b2 g e))
  have b2' : ∀ g, (Value.slice A2' (its.length + 1) c2').ownBlock = some g → B ≤ g := fun g e => by
    rcases ap2.at_ with h1 | h1
    · exact HB.out.b2 g (h1 ▸ e)
    · rw [h1] at e
      have := b24.size
      simp at e hsz2
      omega
  have ap'' : ∀ g, (Value.slice A1' (its.length + 1) c1').ownBlock = some g → (Value.slice A2' (its.length + 1) c2').ownBlock ≠ some g := fun g e e2 => by
    rcases ap2.at_ with h1 | h1
    · exact HAP'.out g e (h1 ▸ e2)
    · rw [h1] at e2
      have := (HR12.out.call b24).lt g e
      simp at e2
      omega
  refine ⟨fun _ => (HS.out _).mpr k15, ?_⟩
  have g56 : w5.grownBy (w5.setCell ⟨gb, 1, none⟩ (.slice A2' (its.length + 1) c2')) (some gb) := only_setCell (World.grownBy.refl w5 (some gb)) (.inl rfl) _
  have K26 := K25.trans (Kinds.grown g56 blk5 (.inl rfl))
  have ok6 : KOk (w5.setCell ⟨gb, 1, none⟩ (.slice A2' (its.length + 1) c2')) B (its ++ [⟨.slice A n c, l, .slice A3 n3 c3⟩]) :=
    (HB.out.ok.kinds (HK2.out.trans K26)).snoc ((HO.out.kinds HK2.out).kinds K26) ((o4.kinds (appended_kinds r24 ap2)).kinds (Kinds.grown g56 blk5 (.inl rfl))) HL.out HNE.out
  have hb6 : BookAt (w5.setCell ⟨gb, 1, none⟩ (.slice A2' (its.length + 1) c2')) B gb (.slice A1' (its.length + 1) c1') (.slice A2' (its.length + 1) c2') h (its ++ [⟨.slice A n c, l, .slice A3 n3 c3⟩]) :=
    ⟨blk5.set_ 1 _, lB, by simpa using r15.grown g56 (.inr (row_blk_ne r15 blk5 (by decide))), by simpa using ap2.row.grown g56 (.inr (row_blk_ne ap2.row blk5 (by decide))), HB1'.out, b2', ap'', ok6⟩
  have HB6 := Lib.hid hb6
  have HK6 := Lib.hid (HK2.out.trans K26)
  have HBB6 := Lib.hid ((HB2.out.trans B25).trans (below_of_grown g56 (by have := B25.size; have := HB2.out.size; omega) (fun g e => by injection e with e; omega)))
  have k26 := hb6.blk.cell 2
  have f26 := hb6.blk.frozen 2
  clear ok6 hb6 K26 g56 ap'' b2' B25 r15 K25 blk4 ap2 r24 rn4 o4 b24 o3 b3 g3 b23 blk5 HW4
  try simp only [Act.put, List.setIfInBounds_toArray, List.set_cons_zero, List.set_cons_succ]
  iterate 2 (refine wpSeq_read rfl rfl ⟨?_, fun w1 hS => ?_, ?_⟩; rotate_left; (focus (go_simp; (try go_bits); try rfl)); simp only [Act.put, List.setIfInBounds_toArray, List.set_cons_zero, List.set_cons_succ])
  refine wpSeq_write rfl rfl ?_
  go_simp
  refine wpSeq_nil ?_
  obtain ⟨w6, hw6⟩ : ∃ x, x = w5.setCell ⟨gb, 1, none⟩ (.slice A2' (its.length + 1) c2') := ⟨_, rfl⟩
  rw [← hw6] at HB6 HK6 HBB6 k26 f26 ⊢
  rw [show (#[Value.slice A1' (its.length + 1) c1', .slice A2' (its.length + 1) c2', Value.int .i64 h, .bool false] : Array Value)[2]? = some (.int .i64 h) from rfl] at k26
  have HHS := Lib.hid hsz2
  clear hw6 k1 k15 f15 HS hsz2
  go_wp2_with fail
  go_loopw [77] (fun _ wr => ∃ (v1 v2 : Value) (h2 : Int) (js : List KIt), Hid (BookAt wr B gb v1 v2 h2 js) ∧ js.length ≤ its.length + 1 ∧ Hid (∀ x ∈ js, x ∈ its ∨ x.v = .slice A n c) ∧ Hid (Kinds w wr) ∧ Hid (Below B w wr)) (fun _ wr => match wr.cell? ⟨gb, 0, none⟩ with | some (.slice _ m _) => m | _ => 0)
  case atStart =>
    refine ⟨_, _, _, _, HB6.out.held _, by simp, ?_, ?_, HBB6.out.setCell lB _⟩
    · intro x hx
      rcases List.mem_append.1 hx with hx | hx
      · exact .inl hx
      · obtain rfl := List.mem_singleton.1 hx
        exact .inr rfl
    · exact HK6.out.trans (Kinds.grown (only_setCell (World.grownBy.refl w6 (some gb)) (.inl rfl) _) HB6.out.blk (.inl rfl))
  case round =>
    obtain ⟨v1', v2', h2, js, hb, hjl, hjm, hk, hbe⟩ := hrel
    clear k26 f26 HB6 HK6 HBB6
    by_cases q1 : 1 < js.length
    · cases js with
      | nil => simp at q1
      | cons j0 js =>
        obtain ⟨g1, o1, d1, cur1, e1, -, hn1, -⟩ := hb.out.r1.form (by simp)
        obtain ⟨g2, o2, d2, cur2, e2, -, hn2, -⟩ := hb.out.r2.form (by simp)
        simp only [List.length_cons] at e1 e2 hn1 hn2 q1 hjl
        subst e1 e2
        obtain ⟨r, hr⟩ : ∃ r, js.length = r := ⟨_, rfl⟩
        rw [hr] at hn1 hn2 q1 hjl hb
        obtain ⟨d1, rfl⟩ : ∃ d, d1 = d + 1 := ⟨d1 - 1, by omega⟩
        obtain ⟨d2, rfl⟩ : ∃ d, d2 = d + 1 := ⟨d2 - 1, by omega⟩
        obtain ⟨m1, m2, lg1, lg2⟩ := hb.out.cells (k := 0) (it := j0) rfl
        rw [Nat.add_zero] at m1 m2
        have hmem : j0 ∈ j0 :: js := List.mem_cons_self ..
        obtain ⟨A4, n4, d4, e4, en4, -, -, rd4⟩ := (hb.out.ok.own j0 hmem).sl
        obtain ⟨A5, n5, d5, e5, en5, -, -, rd5⟩ := (hb.out.ok.was j0 hmem).sl
        have hn := (hb.out.ok.ne j0 hmem).2
        rw [e4] at m1
        rw [e5] at m2
        rw [← en5] at en4
        subst en4
        have hn8 : n4 ≤ 8 := by omega
        have k0 := hb.out.blk.cell 0
        have k1 := hb.out.blk.cell 1
        have k2 := hb.out.blk.cell 2
        have k3 := hb.out.blk.cell 3
        have f0 := hb.out.blk.frozen 0
        have f1 := hb.out.blk.frozen 1
        have f2 := hb.out.blk.frozen 2
        have lgb' := hb.out.blk.lt
        have HRR := Lib.hid hr
        have qr : 0 < r := by omega
        have qri : (r : Int) + 1 > 1 := by omega
        have qr0 : (0 : Int) < (r : Int) + 1 := by omega
        have HE4 := Lib.hid e4
        clear hr e4 e5 en5
        by_cases q2 : h2 > 1000000
        · obtain ⟨S, HS⟩ : ∃ S : World → Prop, Hid (∀ w', S w' = Below wr.heap.size wr w') := ⟨_, fun _ => rfl⟩
          have F0 : Hid (∀ w', S w' → w'.cell? ⟨gb, 0, none⟩ = some (.slice (some ⟨g1, o1, none⟩) (r + 1) (d1 + 1))) := fun w' h => by
            rw [HS.out] at h
            rw [h.cell (p := ⟨gb, 0, none⟩) lgb']; exact k0
          have F1 : Hid (∀ w', S w' → w'.cell? ⟨gb, 1, none⟩ = some (.slice (some ⟨g2, o2, none⟩) (r + 1) (d2 + 1))) := fun w' h => by
            rw [HS.out] at h
            rw [h.cell (p := ⟨gb, 1, none⟩) lgb']; exact k1
          have F3 : Hid (∀ w', S w' → w'.cell? ⟨gb, 3, none⟩ = some (.bool false)) := fun w' h => by
            rw [HS.out] at h
            rw [h.cell (p := ⟨gb, 3, none⟩) lgb']; exact k3
          have F4 : Hid (∀ w', S w' → w'.cell? ⟨g1, o1, none⟩ = some (.slice A4 n4 d4)) := fun w' h => by
            rw [HS.out] at h
            rw [h.cell (p := ⟨g1, o1, none⟩) lg1]; exact m1
          have F5 : Hid (∀ w', S w' → w'.cell? ⟨g2, o2, none⟩ = some (.slice A5 n4 d5)) := fun w' h => by
            rw [HS.out] at h
            rw [h.cell (p := ⟨g2, o2, none⟩) lg2]; exact m2
          have SM := same_cavs A4 A5 n4 d4 d5 j0.l wr.drew rd4.drewS rd5.drewS (by omega)
          have HSM := Lib.hid SM
          clear SM m1 m2 rd4 rd5 k1 k3 f1
          rw [show (#[Value.slice (some ⟨g1, o1, none⟩) (r + 1) (d1 + 1), Value.slice (some ⟨g2, o2, none⟩) (r + 1) (d2 + 1), Value.int .i64 h2, .bool false] : Array Value)[0]? = some (.slice (some ⟨g1, o1, none⟩) (r + 1) (d1 + 1)) from rfl] at k0
          rw [show (#[Value.slice (some ⟨g1, o1, none⟩) (r + 1) (d1 + 1), Value.slice (some ⟨g2, o2, none⟩) (r + 1) (d2 + 1), Value.int .i64 h2, .bool false] : Array Value)[2]? = some (.int .i64 h2) from rfl] at k2
          go_upto_region 4 with (fail)
          refine wp_region_seq S 23 [(0, false), (1, false), (2, false), (3, false), (4, false), (5, false), (6, false), (7, false), (8, false), (9, false), (10, false), (11, false), (12, false), (13, false), (14, false), (15, false), (16, false), (17, false), (18, true), (19, false), (20, false), (21, false), (22, false), (23, true)] (by kernel_rfl) rfl (by kernel_rfl) (by kernel_rfl) (by kernel_rfl) (fun _ _ d _ _ h => by cases d <;> exact h) ((HS.out _).mpr (Below.refl _ wr).drew) ?_
          iterate 18 (refine wpSeq_read rfl rfl ⟨?_, fun w1 hS => ?_, ?_⟩; rotate_left; (focus (have g0 := F0.out w1 hS; have g1 := F1.out w1 hS; have g3 := F3.out w1 hS; have g4 := F4.out w1 hS; have g5 := F5.out w1 hS; go_simp; try rfl)); simp only [Act.put, List.setIfInBounds_toArray, List.set_cons_zero, List.set_cons_succ])
          refine wpSeq_write rfl rfl ?_
          go_simp
          refine HSM.out.mono ?_
          rintro e w5 ⟨rfl, hb5⟩
          have b5 : Below wr.heap.size wr w5 := ⟨hb5.os, hb5.tape, hb5.output, hb5.size, hb5.block⟩
          have hb6 := hb.out.below b5
          have k35 := hb6.blk.cell 3
          have f35 := hb6.blk.frozen 3
          rw [show (#[Value.slice (some ⟨g1, o1, none⟩) (r + 1) (d1 + 1), Value.slice (some ⟨g2, o2, none⟩) (r + 1) (d2 + 1), Value.int .i64 h2, .bool false] : Array Value)[3]? = some (.bool false) from rfl] at k35
          have HB6 := Lib.hid hb6
          have s5 : S w5 := (HS.out _).mpr b5
          have hsz := Nat.le_trans (Nat.le_of_lt (Nat.lt_of_lt_of_le lgb hbe.out.size |> fun h => Nat.lt_of_le_of_lt lB (by have := hb.out.blk.lt; exact this))) (Nat.le_refl wr.heap.size)
          have HBE5 := Lib.hid (hbe.out.trans (b5.mono hsz))
          have HK5 := Lib.hid (hk.out.trans (Kinds.below b5))
          clear hb6 b5 hb5 k0 k2 f0 f2 hsz
          refine ⟨s5, ?_⟩
          try simp only [Act.put, List.setIfInBounds_toArray, List.set_cons_zero, List.set_cons_succ]
          iterate 4 (refine wpSeq_read rfl rfl ⟨?_, fun w1 hS => ?_, ?_⟩; rotate_left; (focus (go_simp; (try go_bits); try rfl)); simp only [Act.put, List.setIfInBounds_toArray, List.set_cons_zero, List.set_cons_succ])
          refine wpSeq_write rfl rfl ?_
          go_simp
          refine wpSeq_nil ?_
          obtain ⟨w6, hw6⟩ : ∃ x, x = w5.setCell ⟨gb, 3, none⟩ (.bool false) := ⟨_, rfl⟩
          rw [← hw6]
          have hb6 := HB6.out.same
          rw [← hw6] at hb6
          have hg6 : w5.grownBy w6 (some gb) := by rw [hw6]; exact only_setCell (World.grownBy.refl w5 (some gb)) (.inl rfl) _
          have HBE6 := Lib.hid (hbe.out.size)
          have HB7 := Lib.hid hb6
          have HBL6 := Lib.hid (HBE5.out.trans (below_of_grown hg6 (by have := HBE5.out.size; omega) (fun g e => by injection e with e; omega)))
          have HK6 := Lib.hid (HK5.out.trans (Kinds.grown hg6 HB6.out.blk (.inl rfl)))
          have lgb6 := hb6.blk.lt
          have k0 := hb6.blk.cell 0
          have k2 := hb6.blk.cell 2
          have k1 := hb6.blk.cell 1
          have f2 := hb6.blk.frozen 2
          have f0 := hb6.blk.frozen 0
          have f1 := hb6.blk.frozen 1
          rw [show (#[Value.slice (some ⟨g1, o1, none⟩) (r + 1) (d1 + 1), Value.slice (some ⟨g2, o2, none⟩) (r + 1) (d2 + 1), Value.int .i64 h2, .bool false] : Array Value)[0]? = some (.slice (some ⟨g1, o1, none⟩) (r + 1) (d1 + 1)) from rfl] at k0
          rw [show (#[Value.slice (some ⟨g1, o1, none⟩) (r + 1) (d1 + 1), Value.slice (some ⟨g2, o2, none⟩) (r + 1) (d2 + 1), Value.int .i64 h2, .bool false] : Array Value)[1]? = some (.slice (some ⟨g2, o2, none⟩) (r + 1) (d2 + 1)) from rfl] at k1
          rw [show (#[Value.slice (some ⟨g1, o1, none⟩) (r + 1) (d1 + 1), Value.slice (some ⟨g2, o2, none⟩) (r + 1) (d2 + 1), Value.int .i64 h2, .bool false] : Array Value)[2]? = some (.int .i64 h2) from rfl] at k2
          obtain ⟨m1, m2, lg1', lg2'⟩ := hb6.cells (k := 0) (it := j0) rfl
          rw [Nat.add_zero] at m1 m2
          have e4' : j0.v = .slice A4 n4 d4 := HE4.out
          rw [e4'] at m1
          clear hw6 hb6 hg6 HB6 HBE5 HK5 F0 F1 F3 F4 F5 HS k35 f35 s5 HSM e4' m2
          go_wp2_with fail
          obtain ⟨S, HS⟩ : ∃ S : World → Prop, Hid (∀ w', S w' = (w'.cell? ⟨gb, 0, none⟩ = some (.slice (some ⟨g1, o1, none⟩) (r + 1) (d1 + 1)) ∧ w'.cell? ⟨gb, 2, none⟩ = some (.int .i64 h2) ∧ w'.cell? ⟨g1, o1, none⟩ = some (.slice A4 n4 d4))) := ⟨_, fun _ => rfl⟩
          refine wp_region_seq S 16 [(0, false), (1, false), (2, false), (3, false), (4, false), (5, false), (6, false), (7, false), (8, false), (9, false), (10, false), (11, false), (12, false), (13, false), (14, false), (15, false), (16, true)] (by kernel_rfl) rfl (by kernel_rfl) (by kernel_rfl) (by kernel_rfl) (fun _ _ d _ _ h => by cases d <;> exact h) ((HS.out _).mpr ⟨by simpa using k0, by simpa using k2, by simpa using m1⟩) ?_
          iterate 16 (refine wpSeq_read rfl rfl ⟨?_, fun w1 hS => ?_, ?_⟩; rotate_left; (focus (rw [HS.out] at hS; obtain ⟨h0, h20, h40⟩ := hS; go_simp; try rfl)); simp only [Act.put, List.setIfInBounds_toArray, List.set_cons_zero, List.set_cons_succ])
          refine wpSeq_write rfl rfl ?_
          go_simp
          refine wpSeq_nil ?_
          generalize hX : IntKind.i64.wrap (IntKind.i64.wrap (h2 - (d4 : Int)) - 1) = X
          obtain ⟨w7, hw7⟩ : ∃ x, x = (w6.setCell ⟨gb, 2, none⟩ (.int .i64 X)).drew := ⟨_, rfl⟩
          rw [← hw7]
          have hb7 : BookAt w7 B gb (.slice (some ⟨g1, o1, none⟩) (r + 1) (d1 + 1)) (.slice (some ⟨g2, o2, none⟩) (r + 1) (d2 + 1)) X (j0 :: js) := by rw [hw7]; exact (HB7.out.held X).below (Below.refl _ _).drew
          have hg7 : w6.grownBy (w6.setCell ⟨gb, 2, none⟩ (.int .i64 X)) (some gb) := only_setCell (World.grownBy.refl w6 (some gb)) (.inl rfl) _
          have HBL7 := Lib.hid (show Below B w w7 by rw [hw7]; exact (HBL6.out.setCell lB _).drew)
          have HK7 := Lib.hid (show Kinds w w7 by rw [hw7]; exact (HK6.out.trans (Kinds.grown hg7 HB7.out.blk (.inl rfl))).trans (Kinds.below (Below.refl _ _).drew))
          have k0' := hb7.blk.cell 0
          have k1' := hb7.blk.cell 1
          have f0' := hb7.blk.frozen 0
          have f1' := hb7.blk.frozen 1
          rw [show (#[Value.slice (some ⟨g1, o1, none⟩) (r + 1) (d1 + 1), Value.slice (some ⟨g2, o2, none⟩) (r + 1) (d2 + 1), Value.int .i64 X, .bool false] : Array Value)[0]? = some (.slice (some ⟨g1, o1, none⟩) (r + 1) (d1 + 1)) from rfl] at k0'
          rw [show (#[Value.slice (some ⟨g1, o1, none⟩) (r + 1) (d1 + 1), Value.slice (some ⟨g2, o2, none⟩) (r + 1) (d2 + 1), Value.int .i64 X, .bool false] : Array Value)[1]? = some (.slice (some ⟨g2, o2, none⟩) (r + 1) (d2 + 1)) from rfl] at k1'
          have hb8 := hb7
          rw [← HRR.out] at hb8
          have hb9 := hb8.drop
          rw [HRR.out] at hb9
          have HB9 := Lib.hid hb9
          have g79 : w7.grownBy ((w7.setCell ⟨gb, 0, none⟩ (.slice (some ⟨g1, o1 + 1, none⟩) r d1)).setCell ⟨gb, 1, none⟩ (.slice (some ⟨g2, o2 + 1, none⟩) r d2)) (some gb) := only_setCell (only_setCell (World.grownBy.refl w7 (some gb)) (.inl rfl) _) (.inl rfl) _
          have HK9 := Lib.hid (HK7.out.trans (Kinds.grown g79 hb7.blk (.inl rfl)))
          have lgb7 := hb7.blk.lt
          have qd1 : r ≤ d1 := by omega
          have qd2 : r ≤ d2 := by omega
          have hc1 : ¬ d1 + 1 = 1 := by omega
          have hc2 : ¬ d2 + 1 = 1 := by omega
          clear hw7 hb7 hb8 hb9 hg7 g79 hX k0 k1 k2 f0 f1 f2 m1 HS
          go_wp2_with fail
          go_roundw
          case rel =>
            have hjl' := HRR.out
            exact ⟨_, _, _, js, HB9.out, by omega, fun x hx => hjm.out x (List.mem_cons_of_mem _ hx), HK9.out, (HBL7.out.setCell lB _).setCell lB _⟩
          case measure =>
            have h0 := hb.out.blk.cell 0
            have h1 := HB9.out.blk.cell 0
            rw [h0, h1]
            simp
        · have q3 : ¬ (r : Int) + 1 > 4000 := by omega
          rw [show (#[Value.slice (some ⟨g1, o1, none⟩) (r + 1) (d1 + 1), Value.slice (some ⟨g2, o2, none⟩) (r + 1) (d2 + 1), Value.int .i64 h2, .bool false] : Array Value)[0]? = some (.slice (some ⟨g1, o1, none⟩) (r + 1) (d1 + 1)) from rfl] at k0
          rw [show (#[Value.slice (some ⟨g1, o1, none⟩) (r + 1) (d1 + 1), Value.slice (some ⟨g2, o2, none⟩) (r + 1) (d2 + 1), Value.int .i64 h2, .bool false] : Array Value)[2]? = some (.int .i64 h2) from rfl] at k2
          have hjl' : (j0 :: js).length ≤ its.length + 1 := by have := HRR.out; simp; omega
          have HJL := Lib.hid hjl'
          clear hjl' k1 k3 f0 f1 f2 m1 m2 rd4 rd5
          go_wp2_with fail
          go_end0
          exact ⟨rfl, _, _, _, _, hb.out, HJL.out, hjm.out, hk.out, hbe.out⟩
    · obtain ⟨A1x, c1x, rfl, -⟩ := hb.out.r1.slice
      have k0 := hb.out.blk.cell 0
      rw [show (#[Value.slice A1x js.length c1x, v2', Value.int .i64 h2, .bool false] : Array Value)[0]? = some (.slice A1x js.length c1x) from rfl] at k0
      have q1' : ¬ (js.length : Int) > 1 := by omega
      go_wp2_with fail
      go_end0
      exact ⟨rfl, _, _, _, _, hb.out, hjl, hjm.out, hk.out, hbe.out⟩

end Go.Proofs.YtamhggndcegndaaDoor
