/-
  request: what an operation has (fields), the closures that gather it; a request's cells.
-/
import Derived.Test.YtbkdccamimakoaaDoorTok
namespace Go.Proofs.YtbkdccamimakoaaDoor
open Go.RowKit
set_option linter.unusedVariables false

/-- A request's data. -/
structure Req where
  op : Int
  tid : Nat
  cavs : List (Int × Nat)
  tag : List Nat
  tree : Int
  tenant : Int
  role : Int
  state : Int
  weight : Int
  id : Nat
  lo : Nat
  hi : Nat
  rate : Nat
  burst : Nat
  store : Nat
  expires : Nat
  leaf : List Nat

/-- The numbers of a request that came in. -/
structure Req.Good (R : Req) : Prop where
  tag : R.tag.length = 32
  tagb : ∀ b ∈ R.tag, b < 256
  tid : R.tid < 4294967296
  cavn : ∀ x ∈ R.cavs, x.2 < 4294967296
  cavk : ∀ x ∈ R.cavs, (Lit.int .i64 x.1).wf = true
  op : (Lit.int .i64 R.op).wf = true
  tree : (Lit.int .i64 R.tree).wf = true
  tenant : (Lit.int .i64 R.tenant).wf = true
  role : (Lit.int .i64 R.role).wf = true
  state : (Lit.int .i64 R.state).wf = true
  weight : (Lit.int .i64 R.weight).wf = true
  id : R.id < 4294967296
  lo : R.lo < 18446744073709551616
  hi : R.hi < 18446744073709551616
  rate : R.rate < 4294967296
  burst : R.burst < 4294967296
  store : R.store < 4294967296
  expires : R.expires < 18446744073709551616
  leafb : ∀ b ∈ R.leaf, b < 256

/-- What stands behind a request's token. -/
def Req.rest (R : Req) (leafv : Value) : List Value :=
  [.int .i64 R.tree, .int .i64 R.tenant, .int .i64 R.role, .int .i64 R.state, .int .i64 R.weight, .int .u32 (R.id : Int), .int .u64 (R.lo : Int), .int .u64 (R.hi : Int), .int .u32 (R.rate : Int), .int .u32 (R.burst : Int), .int .u32 (R.store : Int), .int .u64 (R.expires : Int), leafv]

/-- A request's cells. -/
def reqv (R : Req) (cav leafv : Value) : List Value := (Value.int .i64 R.op :: tokv R.tid cav R.tag) ++ R.rest leafv

theorem reqv_rest (R : Req) (cav leafv : Value) (ht : R.tag.length = 32) (k : Nat) : (reqv R cav leafv)[35 + k]? = (R.rest leafv)[k]? := by
  have h : (Value.int .i64 R.op :: tokv R.tid cav R.tag).length = 35 := by rw [List.length_cons, tokv_len _ _ _ ht]
  unfold reqv
  rw [List.getElem?_append_right (by omega), h]
  congr 1
  omega

/-- A field: its bytes, its kind (1 an int, 2 a uint32, 3 a uint64, else the leaf), its place. -/
abbrev Fld := Nat × Nat × Nat

def treesB (op : Int) : Bool := decide (1 ≤ op ∧ op ≤ 9)

/-- What an operation has. -/
def fieldsOf (op : Int) : Option (List Fld) :=
  if op = 1 then some [(1, 1, 35), (0, 0, 0)]
  else if op = 2 ∨ op = 9 then some [(1, 1, 35)]
  else if op = 3 then some [(1, 1, 35), (8, 3, 41)]
  else if op = 4 ∨ op = 5 then some [(1, 1, 35), (8, 3, 41), (8, 3, 42)]
  else if op = 6 then some [(1, 1, 35), (1, 1, 36), (1, 1, 39)]
  else if op = 8 then some [(1, 1, 35), (1, 1, 39)]
  else if op = 7 then some [(1, 1, 35), (1, 1, 38)]
  else if op = 10 then some [(1, 1, 36), (1, 1, 37), (8, 3, 46)]
  else if op = 11 then some [(4, 2, 40)]
  else if op = 12 then some [(1, 1, 36), (4, 2, 43), (4, 2, 44), (4, 2, 45)]
  else none

/-- A field's cells, the request in block g. -/
def fldv (g : Nat) (f : Fld) : List Value :=
  if f.2.1 = 1 then [.int .i64 (f.1 : Int), .pointer (some ⟨g, f.2.2, none⟩), .pointer none, .pointer none]
  else if f.2.1 = 2 then [.int .i64 (f.1 : Int), .pointer none, .pointer (some ⟨g, f.2.2, none⟩), .pointer none]
  else if f.2.1 = 3 then [.int .i64 (f.1 : Int), .pointer none, .pointer none, .pointer (some ⟨g, f.2.2, none⟩)]
  else [.int .i64 (f.1 : Int), .pointer none, .pointer none, .pointer none]

def fldvs (g : Nat) (l : List Fld) : List Value := l.flatMap (fldv g)

theorem Tryd.fld_info : (Tryd.prog.info? 82).map (fun i => (i.zero, i.size, i.bytes)) = some (some (.agg #[.int .i64 0, .pointer none, .pointer none, .pointer none]), 4, 32) := by kernel_rfl

theorem request_trees (op : Int) (w : World) :
    Calls Tryd.prog 17 #[.int .i64 op] w fun e w' => e = .returned (.bool (treesB op)) ∧ w = w' := by
  go_enter Tryd.func17, Tryd.ntmps17
  go_wp2
  all_goals
    go_ret
    exact ⟨ret_bool' (by simp_all [treesB]; try omega), rfl⟩

/-- The list that the closures gather: block L holds it. -/
def Lst (w : World) (B L g : Nat) (l : List Fld) : Prop := ∃ v, Blk w L 74 #[v] ∧ B ≤ L ∧ w.ownsRow B 82 4 v l.length (fldvs g l)

theorem lst_step {w1 : World} {B L g n c : Nat} {v : Value} {A : Option Addr} {l : List Fld} (hg : Blk w1 L 74 #[v]) (hB : B ≤ L) (hn : l.length = n) (hown : w1.ownsRow B 82 4 (.slice A n c) n (fldvs g l)) : Lst (w1.setCell ⟨L, 0, none⟩ (.slice A n c)) B L g l := by
  subst hn
  exact ⟨.slice A l.length c, by simpa using hg.set_ 0 (.slice A l.length c), hB, own_setCell_far hown (p := ⟨L, 0, none⟩) (own_blk_ne hown hg (by decide)) _⟩

theorem fields_small (B L g off : Nat) (l : List Fld) (w : World) (h : Lst w B L g l) (hl : l.length ≤ 100) :
    Calls Tryd.prog 65 #[.pointer (some ⟨g, off, none⟩), .pointer (some ⟨L, 0, none⟩)] w fun e w' => e = .returned (.tuple #[]) ∧ Lst w' B L g (l ++ [(1, 1, off)]) ∧ Below B w w' := by
  obtain ⟨i0, hi0, hz0, hz1, hz2⟩ := info_parts Tryd.fld_info
  obtain ⟨v, hL, hBL, hown⟩ := h
  have hc := hL.cell 0
  have hf := hL.frozen 0
  simp at hc
  have hlt := hL.lt
  go_enter Tryd.func65, Tryd.ntmps65
  go_wp2_with (at_builtin; refine wpList_append_any _ rfl (.tmp 3) (.tmp 6) _ rfl B 82 i0 _ 4 32 Tryd.underlying74 hi0 hz0 hz1 hz2 rfl (by omega) v l.length (fldvs g l) rfl (hown.alloc _) (w.heap.size + 1) _ 1 1 [.int .i64 1, .pointer (some ⟨g, off, none⟩), .pointer none, .pointer none] rfl (Reads.new w _ _ 4 1 rfl) (by simp [Value.oneCell']) (by simp only [maxLen]; omega) (by omega) (by simp; omega) ?_)
  intro v1 w1 hown1 hg1 hat1
  have hgw := (hL.alloc (.cells #[.int .i64 1, .pointer (some ⟨g, off, none⟩), .pointer none, .pointer none] 82)).grown hg1 (Ne.symm (own_blk_ne hown hL (by decide)))
  have hb1 := below_appended ((Below.refl B w).alloc (by omega) (.cells #[.int .i64 1, .pointer (some ⟨g, off, none⟩), .pointer none, .pointer none] 82)) (hown.alloc _) hg1 (Nat.le_refl _) (by simp; omega)
  obtain ⟨A1, c1, rfl, -, -, -⟩ := own_slice hown1
  have hc1 := hgw.cell 0
  have hf1 := hgw.frozen 0
  simp at hc1
  have HL := Lib.hid (lst_step hgw hBL (l := l ++ [(1, 1, off)]) (n := l.length + 1) (by simp) (by simpa [fldvs, fldv] using hown1))
  have HB := Lib.hid (hb1.setCell (p := ⟨L, 0, none⟩) hBL (.slice A1 (l.length + 1) c1))
  clear hb1 hown1 hgw hat1 hg1 hown hL hc hf
  go_wp2
  go_end0
  exact ⟨rfl, HL.out, HB.out⟩

theorem fields_mid (B L g off : Nat) (l : List Fld) (w : World) (h : Lst w B L g l) (hl : l.length ≤ 100) :
    Calls Tryd.prog 66 #[.pointer (some ⟨g, off, none⟩), .pointer (some ⟨L, 0, none⟩)] w fun e w' => e = .returned (.tuple #[]) ∧ Lst w' B L g (l ++ [(4, 2, off)]) ∧ Below B w w' := by
  obtain ⟨i0, hi0, hz0, hz1, hz2⟩ := info_parts Tryd.fld_info
  obtain ⟨v, hL, hBL, hown⟩ := h
  have hc := hL.cell 0
  have hf := hL.frozen 0
  simp at hc
  have hlt := hL.lt
  go_enter Tryd.func66, Tryd.ntmps66
  go_wp2_with (at_builtin; refine wpList_append_any _ rfl (.tmp 3) (.tmp 6) _ rfl B 82 i0 _ 4 32 Tryd.underlying74 hi0 hz0 hz1 hz2 rfl (by omega) v l.length (fldvs g l) rfl (hown.alloc _) (w.heap.size + 1) _ 1 1 [.int .i64 4, .pointer none, .pointer (some ⟨g, off, none⟩), .pointer none] rfl (Reads.new w _ _ 4 1 rfl) (by simp [Value.oneCell']) (by simp only [maxLen]; omega) (by omega) (by simp; omega) ?_)
  intro v1 w1 hown1 hg1 hat1
  have hgw := (hL.alloc (.cells #[.int .i64 4, .pointer none, .pointer (some ⟨g, off, none⟩), .pointer none] 82)).grown hg1 (Ne.symm (own_blk_ne hown hL (by decide)))
  have hb1 := below_appended ((Below.refl B w).alloc (by omega) (.cells #[.int .i64 4, .pointer none, .pointer (some ⟨g, off, none⟩), .pointer none] 82)) (hown.alloc _) hg1 (Nat.le_refl _) (by simp; omega)
  obtain ⟨A1, c1, rfl, -, -, -⟩ := own_slice hown1
  have hc1 := hgw.cell 0
  have hf1 := hgw.frozen 0
  simp at hc1
  have HL := Lib.hid (lst_step hgw hBL (l := l ++ [(4, 2, off)]) (n := l.length + 1) (by simp) (by simpa [fldvs, fldv] using hown1))
  have HB := Lib.hid (hb1.setCell (p := ⟨L, 0, none⟩) hBL (.slice A1 (l.length + 1) c1))
  clear hb1 hown1 hgw hat1 hg1 hown hL hc hf
  go_wp2
  go_end0
  exact ⟨rfl, HL.out, HB.out⟩

theorem fields_big (B L g off : Nat) (l : List Fld) (w : World) (h : Lst w B L g l) (hl : l.length ≤ 100) :
    Calls Tryd.prog 67 #[.pointer (some ⟨g, off, none⟩), .pointer (some ⟨L, 0, none⟩)] w fun e w' => e = .returned (.tuple #[]) ∧ Lst w' B L g (l ++ [(8, 3, off)]) ∧ Below B w w' := by
  obtain ⟨i0, hi0, hz0, hz1, hz2⟩ := info_parts Tryd.fld_info
  obtain ⟨v, hL, hBL, hown⟩ := h
  have hc := hL.cell 0
  have hf := hL.frozen 0
  simp at hc
  have hlt := hL.lt
  go_enter Tryd.func67, Tryd.ntmps67
  go_wp2_with (at_builtin; refine wpList_append_any _ rfl (.tmp 3) (.tmp 6) _ rfl B 82 i0 _ 4 32 Tryd.underlying74 hi0 hz0 hz1 hz2 rfl (by omega) v l.length (fldvs g l) rfl (hown.alloc _) (w.heap.size + 1) _ 1 1 [.int .i64 8, .pointer none, .pointer none, .pointer (some ⟨g, off, none⟩)] rfl (Reads.new w _ _ 4 1 rfl) (by simp [Value.oneCell']) (by simp only [maxLen]; omega) (by omega) (by simp; omega) ?_)
  intro v1 w1 hown1 hg1 hat1
  have hgw := (hL.alloc (.cells #[.int .i64 8, .pointer none, .pointer none, .pointer (some ⟨g, off, none⟩)] 82)).grown hg1 (Ne.symm (own_blk_ne hown hL (by decide)))
  have hb1 := below_appended ((Below.refl B w).alloc (by omega) (.cells #[.int .i64 8, .pointer none, .pointer none, .pointer (some ⟨g, off, none⟩)] 82)) (hown.alloc _) hg1 (Nat.le_refl _) (by simp; omega)
  obtain ⟨A1, c1, rfl, -, -, -⟩ := own_slice hown1
  have hc1 := hgw.cell 0
  have hf1 := hgw.frozen 0
  simp at hc1
  have HL := Lib.hid (lst_step hgw hBL (l := l ++ [(8, 3, off)]) (n := l.length + 1) (by simp) (by simpa [fldvs, fldv] using hown1))
  have HB := Lib.hid (hb1.setCell (p := ⟨L, 0, none⟩) hBL (.slice A1 (l.length + 1) c1))
  clear hb1 hown1 hgw hat1 hg1 hown hL hc hf
  go_wp2
  go_end0
  exact ⟨rfl, HL.out, HB.out⟩

/-- What stands while the fields are gathered. -/
def Gat (W w : World) (g : Nat) (D : Array Value) (l : List Fld) : Prop := g < W.heap.size ∧ Blk w g 32 D ∧ Lst w W.heap.size W.heap.size g l ∧ Below W.heap.size W w

theorem gat_small (W : World) (g : Nat) (D : Array Value) (off : Nat) (l : List Fld) (w : World) (h : Gat W w g D l) (hl : l.length ≤ 100) :
    Calls Tryd.prog 65 #[.pointer (some ⟨g, off, none⟩), .pointer (some ⟨W.heap.size, 0, none⟩)] w fun e w' => e = .returned (.tuple #[]) ∧ Gat W w' g D (l ++ [(1, 1, off)]) := by
  refine (fields_small _ _ _ off l w h.2.2.1 hl).mono ?_
  rintro e w' ⟨rfl, h1, h2⟩
  exact ⟨rfl, h.1, h.2.1.below h2 h.1, h1, h.2.2.2.trans h2⟩

theorem gat_mid (W : World) (g : Nat) (D : Array Value) (off : Nat) (l : List Fld) (w : World) (h : Gat W w g D l) (hl : l.length ≤ 100) :
    Calls Tryd.prog 66 #[.pointer (some ⟨g, off, none⟩), .pointer (some ⟨W.heap.size, 0, none⟩)] w fun e w' => e = .returned (.tuple #[]) ∧ Gat W w' g D (l ++ [(4, 2, off)]) := by
  refine (fields_mid _ _ _ off l w h.2.2.1 hl).mono ?_
  rintro e w' ⟨rfl, h1, h2⟩
  exact ⟨rfl, h.1, h.2.1.below h2 h.1, h1, h.2.2.2.trans h2⟩

theorem gat_big (W : World) (g : Nat) (D : Array Value) (off : Nat) (l : List Fld) (w : World) (h : Gat W w g D l) (hl : l.length ≤ 100) :
    Calls Tryd.prog 67 #[.pointer (some ⟨g, off, none⟩), .pointer (some ⟨W.heap.size, 0, none⟩)] w fun e w' => e = .returned (.tuple #[]) ∧ Gat W w' g D (l ++ [(8, 3, off)]) := by
  refine (fields_big _ _ _ off l w h.2.2.1 hl).mono ?_
  rintro e w' ⟨rfl, h1, h2⟩
  exact ⟨rfl, h.1, h.2.1.below h2 h.1, h1, h.2.2.2.trans h2⟩

theorem gat_new (w : World) (g : Nat) (D : Array Value) (hg : Blk w g 32 D) : Gat w (w.alloc (.cells #[.slice none 0 0] 74)) g D [] :=
  ⟨hg.lt, hg.alloc _, ⟨_, Blk.new _ _ _, Nat.le_refl _, World.ownsRow_nil ..⟩, (Below.refl _ _).alloc (Nat.le_refl _) _⟩

theorem gat_cell {W w : World} {g : Nat} {D : Array Value} {l : List Fld} (h : Gat W w g D l) {v : Value} (h0 : D[0]? = some v) : w.cell? ⟨g, 0, none⟩ = some v := (h.2.1.cell 0).trans h0

theorem gat_end {W w : World} {g : Nat} {D : Array Value} {l : List Fld} (h : Gat W w g D l) : ∃ v, w.cell? ⟨W.heap.size, 0, none⟩ = some v ∧ w.ownsRow W.heap.size 82 4 v l.length (fldvs g l) ∧ Below W.heap.size W w := by
  obtain ⟨-, -, ⟨v, hb, -, ho⟩, hbl⟩ := h
  exact ⟨v, by simpa using hb.cell 0, ho, hbl⟩




set_option maxRecDepth 100000 in
theorem request_fields_1 (g : Nat) (D : Array Value) (w : World) (hg : Blk w g 32 D) (h0 : D[0]? = some (.int .i64 1)) :
    Calls Tryd.prog 30 #[.pointer (some ⟨g, 0, none⟩)] w fun e w' => ∃ v, e = .returned (.tuple #[v, .bool true]) ∧ w'.ownsRow w.heap.size 82 4 v 2 (fldvs g [(1, 1, 35), (0, 0, 0)]) ∧ Below w.heap.size w w' := by
  have hmf : ∀ (fn : Fn) (first cap : Array Value) (w : World), (Instr.makeFunc fn first cap).run Tryd.prog w = .ok (.func fn first cap) w := fun _ _ _ _ => rfl
  have HG := Lib.hid (gat_new w g D hg)
  have hc := gat_cell HG.out h0
  have ht : treesB 1 = true := rfl
  go_enter Tryd.func30, Tryd.ntmps30
  go_wp2_with fail
  refine (request_trees _ _).mono ?_
  rintro e w1 ⟨rfl, rfl⟩
  go_wp2_with fail
  refine (gat_small _ _ _ _ _ _ HG.out (by simp)).mono ?_
  rintro e w1 ⟨rfl, hG1⟩
  have hc := gat_cell hG1 h0
  clear HG
  obtain ⟨i0, hi0, hz0, hz1, hz2⟩ := info_parts Tryd.fld_info
  obtain ⟨hgs, -, ⟨v, hL, hBL, hown⟩, hB⟩ := hG1
  have hcL := hL.cell 0
  have hfL := hL.frozen 0
  simp at hcL
  have hlt := hL.lt
  go_wp2_with (at_builtin; refine wpList_append_any _ rfl (.tmp 47) (.tmp 49) _ rfl w.heap.size 82 i0 _ 4 32 Tryd.underlying74 hi0 hz0 hz1 hz2 rfl (by omega) v 1 (fldvs g [(1, 1, 35)]) rfl (hown.alloc _) (w1.heap.size + 1) _ 1 1 [.int .i64 0, .pointer none, .pointer none, .pointer none] rfl (Reads.new w1 _ _ 4 1 rfl) (by simp [Value.oneCell']) (by simp only [maxLen]; omega) (by omega) (by simp; omega) ?_)
  intro v1 w2 hown1 hg1 hat1
  have hgw := (hL.alloc (.cells #[.int .i64 0, .pointer none, .pointer none, .pointer none] 82)).grown hg1 (Ne.symm (own_blk_ne hown hL (by decide)))
  have hb1 := below_appended (hB.alloc (by omega) (.cells #[.int .i64 0, .pointer none, .pointer none, .pointer none] 82)) (hown.alloc _) hg1 (Nat.le_refl _) (by simp; omega)
  obtain ⟨A1, c1, rfl, -, -, -⟩ := own_slice hown1
  have hc1 := hgw.cell 0
  have hf1 := hgw.frozen 0
  simp at hc1
  have HL := Lib.hid (lst_step hgw hBL (l := [(1, 1, 35), (0, 0, 0)]) (n := 2) rfl (by simpa [fldvs, fldv] using hown1))
  have HB := Lib.hid (hb1.setCell (p := ⟨w.heap.size, 0, none⟩) hBL (.slice A1 2 c1))
  clear hb1 hown1 hgw hat1 hg1 hown hL hcL hfL
  obtain ⟨x, hx, -, ho⟩ := HL.out
  have h2 : (w2.setCell ⟨w.heap.size, 0, none⟩ (Value.slice A1 2 c1)).cell? ⟨w.heap.size, 0, none⟩ = some (Value.slice A1 2 c1) := World.cell?_setCell_same _ _ _ hc1
  have hxe : x = Value.slice A1 2 c1 := by
    have h1 := hx.cell 0
    rw [h2] at h1
    simpa using h1.symm
  subst hxe
  have HO := Lib.hid ho
  clear ho hx HL
  go_wp2
  go_ret2
  exact ⟨_, rfl, HO.out, HB.out⟩

set_option maxRecDepth 100000 in
theorem request_fields_2 (g : Nat) (D : Array Value) (w : World) (hg : Blk w g 32 D) (h0 : D[0]? = some (.int .i64 2)) :
    Calls Tryd.prog 30 #[.pointer (some ⟨g, 0, none⟩)] w fun e w' => ∃ v, e = .returned (.tuple #[v, .bool true]) ∧ w'.ownsRow w.heap.size 82 4 v 1 (fldvs g [(1, 1, 35)]) ∧ Below w.heap.size w w' := by
  have hmf : ∀ (fn : Fn) (first cap : Array Value) (w : World), (Instr.makeFunc fn first cap).run Tryd.prog w = .ok (.func fn first cap) w := fun _ _ _ _ => rfl
  have HG := Lib.hid (gat_new w g D hg)
  have hc := gat_cell HG.out h0
  have ht : treesB 2 = true := rfl
  go_enter Tryd.func30, Tryd.ntmps30
  go_wp2_with fail
  refine (request_trees _ _).mono ?_
  rintro e w1 ⟨rfl, rfl⟩
  go_wp2_with fail
  refine (gat_small _ _ _ _ _ _ HG.out (by simp)).mono ?_
  rintro e w1 ⟨rfl, hG1⟩
  clear HG hc
  have hc := gat_cell hG1 h0
  obtain ⟨v, hv, ho, hb⟩ := gat_end hG1
  have HO := Lib.hid ho
  have HB := Lib.hid hb
  clear ho hb hG1
  go_wp2
  go_ret2
  exact ⟨v, rfl, HO.out, HB.out⟩

set_option maxRecDepth 100000 in
theorem request_fields_3 (g : Nat) (D : Array Value) (w : World) (hg : Blk w g 32 D) (h0 : D[0]? = some (.int .i64 3)) :
    Calls Tryd.prog 30 #[.pointer (some ⟨g, 0, none⟩)] w fun e w' => ∃ v, e = .returned (.tuple #[v, .bool true]) ∧ w'.ownsRow w.heap.size 82 4 v 2 (fldvs g [(1, 1, 35), (8, 3, 41)]) ∧ Below w.heap.size w w' := by
  have hmf : ∀ (fn : Fn) (first cap : Array Value) (w : World), (Instr.makeFunc fn first cap).run Tryd.prog w = .ok (.func fn first cap) w := fun _ _ _ _ => rfl
  have HG := Lib.hid (gat_new w g D hg)
  have hc := gat_cell HG.out h0
  have ht : treesB 3 = true := rfl
  go_enter Tryd.func30, Tryd.ntmps30
  go_wp2_with fail
  refine (request_trees _ _).mono ?_
  rintro e w1 ⟨rfl, rfl⟩
  go_wp2_with fail
  refine (gat_small _ _ _ _ _ _ HG.out (by simp)).mono ?_
  rintro e w1 ⟨rfl, hG1⟩
  clear HG hc
  have hc := gat_cell hG1 h0
  have HG := Lib.hid hG1
  clear hG1
  go_wp2_with fail
  refine (gat_big _ _ _ _ _ _ HG.out (by simp)).mono ?_
  rintro e w1 ⟨rfl, hG1⟩
  clear HG hc
  have hc := gat_cell hG1 h0
  obtain ⟨v, hv, ho, hb⟩ := gat_end hG1
  have HO := Lib.hid ho
  have HB := Lib.hid hb
  clear ho hb hG1
  go_wp2
  go_ret2
  exact ⟨v, rfl, HO.out, HB.out⟩

set_option maxRecDepth 100000 in
theorem request_fields_4 (g : Nat) (D : Array Value) (w : World) (hg : Blk w g 32 D) (h0 : D[0]? = some (.int .i64 4)) :
    Calls Tryd.prog 30 #[.pointer (some ⟨g, 0, none⟩)] w fun e w' => ∃ v, e = .returned (.tuple #[v, .bool true]) ∧ w'.ownsRow w.heap.size 82 4 v 3 (fldvs g [(1, 1, 35), (8, 3, 41), (8, 3, 42)]) ∧ Below w.heap.size w w' := by
  have hmf : ∀ (fn : Fn) (first cap : Array Value) (w : World), (Instr.makeFunc fn first cap).run Tryd.prog w = .ok (.func fn first cap) w := fun _ _ _ _ => rfl
  have HG := Lib.hid (gat_new w g D hg)
  have hc := gat_cell HG.out h0
  have ht : treesB 4 = true := rfl
  go_enter Tryd.func30, Tryd.ntmps30
  go_wp2_with fail
  refine (request_trees _ _).mono ?_
  rintro e w1 ⟨rfl, rfl⟩
  go_wp2_with fail
  refine (gat_small _ _ _ _ _ _ HG.out (by simp)).mono ?_
  rintro e w1 ⟨rfl, hG1⟩
  clear HG hc
  have hc := gat_cell hG1 h0
  have HG := Lib.hid hG1
  clear hG1
  go_wp2_with fail
  refine (gat_big _ _ _ _ _ _ HG.out (by simp)).mono ?_
  rintro e w1 ⟨rfl, hG1⟩
  clear HG hc
  have hc := gat_cell hG1 h0
  have HG := Lib.hid hG1
  clear hG1
  go_wp2_with fail
  refine (gat_big _ _ _ _ _ _ HG.out (by simp)).mono ?_
  rintro e w1 ⟨rfl, hG1⟩
  clear HG hc
  have hc := gat_cell hG1 h0
  obtain ⟨v, hv, ho, hb⟩ := gat_end hG1
  have HO := Lib.hid ho
  have HB := Lib.hid hb
  clear ho hb hG1
  go_wp2
  go_ret2
  exact ⟨v, rfl, HO.out, HB.out⟩

set_option maxRecDepth 100000 in
theorem request_fields_5 (g : Nat) (D : Array Value) (w : World) (hg : Blk w g 32 D) (h0 : D[0]? = some (.int .i64 5)) :
    Calls Tryd.prog 30 #[.pointer (some ⟨g, 0, none⟩)] w fun e w' => ∃ v, e = .returned (.tuple #[v, .bool true]) ∧ w'.ownsRow w.heap.size 82 4 v 3 (fldvs g [(1, 1, 35), (8, 3, 41), (8, 3, 42)]) ∧ Below w.heap.size w w' := by
  have hmf : ∀ (fn : Fn) (first cap : Array Value) (w : World), (Instr.makeFunc fn first cap).run Tryd.prog w = .ok (.func fn first cap) w := fun _ _ _ _ => rfl
  have HG := Lib.hid (gat_new w g D hg)
  have hc := gat_cell HG.out h0
  have ht : treesB 5 = true := rfl
  go_enter Tryd.func30, Tryd.ntmps30
  go_wp2_with fail
  refine (request_trees _ _).mono ?_
  rintro e w1 ⟨rfl, rfl⟩
  go_wp2_with fail
  refine (gat_small _ _ _ _ _ _ HG.out (by simp)).mono ?_
  rintro e w1 ⟨rfl, hG1⟩
  clear HG hc
  have hc := gat_cell hG1 h0
  have HG := Lib.hid hG1
  clear hG1
  go_wp2_with fail
  refine (gat_big _ _ _ _ _ _ HG.out (by simp)).mono ?_
  rintro e w1 ⟨rfl, hG1⟩
  clear HG hc
  have hc := gat_cell hG1 h0
  have HG := Lib.hid hG1
  clear hG1
  go_wp2_with fail
  refine (gat_big _ _ _ _ _ _ HG.out (by simp)).mono ?_
  rintro e w1 ⟨rfl, hG1⟩
  clear HG hc
  have hc := gat_cell hG1 h0
  obtain ⟨v, hv, ho, hb⟩ := gat_end hG1
  have HO := Lib.hid ho
  have HB := Lib.hid hb
  clear ho hb hG1
  go_wp2
  go_ret2
  exact ⟨v, rfl, HO.out, HB.out⟩

set_option maxRecDepth 100000 in
theorem request_fields_6 (g : Nat) (D : Array Value) (w : World) (hg : Blk w g 32 D) (h0 : D[0]? = some (.int .i64 6)) :
    Calls Tryd.prog 30 #[.pointer (some ⟨g, 0, none⟩)] w fun e w' => ∃ v, e = .returned (.tuple #[v, .bool true]) ∧ w'.ownsRow w.heap.size 82 4 v 3 (fldvs g [(1, 1, 35), (1, 1, 36), (1, 1, 39)]) ∧ Below w.heap.size w w' := by
  have hmf : ∀ (fn : Fn) (first cap : Array Value) (w : World), (Instr.makeFunc fn first cap).run Tryd.prog w = .ok (.func fn first cap) w := fun _ _ _ _ => rfl
  have HG := Lib.hid (gat_new w g D hg)
  have hc := gat_cell HG.out h0
  have ht : treesB 6 = true := rfl
  go_enter Tryd.func30, Tryd.ntmps30
  go_wp2_with fail
  refine (request_trees _ _).mono ?_
  rintro e w1 ⟨rfl, rfl⟩
  go_wp2_with fail
  refine (gat_small _ _ _ _ _ _ HG.out (by simp)).mono ?_
  rintro e w1 ⟨rfl, hG1⟩
  clear HG hc
  have hc := gat_cell hG1 h0
  have HG := Lib.hid hG1
  clear hG1
  go_wp2_with fail
  refine (gat_small _ _ _ _ _ _ HG.out (by simp)).mono ?_
  rintro e w1 ⟨rfl, hG1⟩
  clear HG hc
  have hc := gat_cell hG1 h0
  have HG := Lib.hid hG1
  clear hG1
  go_wp2_with fail
  refine (gat_small _ _ _ _ _ _ HG.out (by simp)).mono ?_
  rintro e w1 ⟨rfl, hG1⟩
  clear HG hc
  have hc := gat_cell hG1 h0
  obtain ⟨v, hv, ho, hb⟩ := gat_end hG1
  have HO := Lib.hid ho
  have HB := Lib.hid hb
  clear ho hb hG1
  go_wp2
  go_ret2
  exact ⟨v, rfl, HO.out, HB.out⟩

set_option maxRecDepth 100000 in
theorem request_fields_7 (g : Nat) (D : Array Value) (w : World) (hg : Blk w g 32 D) (h0 : D[0]? = some (.int .i64 7)) :
    Calls Tryd.prog 30 #[.pointer (some ⟨g, 0, none⟩)] w fun e w' => ∃ v, e = .returned (.tuple #[v, .bool true]) ∧ w'.ownsRow w.heap.size 82 4 v 2 (fldvs g [(1, 1, 35), (1, 1, 38)]) ∧ Below w.heap.size w w' := by
  have hmf : ∀ (fn : Fn) (first cap : Array Value) (w : World), (Instr.makeFunc fn first cap).run Tryd.prog w = .ok (.func fn first cap) w := fun _ _ _ _ => rfl
  have HG := Lib.hid (gat_new w g D hg)
  have hc := gat_cell HG.out h0
  have ht : treesB 7 = true := rfl
  go_enter Tryd.func30, Tryd.ntmps30
  go_wp2_with fail
  refine (request_trees _ _).mono ?_
  rintro e w1 ⟨rfl, rfl⟩
  go_wp2_with fail
  refine (gat_small _ _ _ _ _ _ HG.out (by simp)).mono ?_
  rintro e w1 ⟨rfl, hG1⟩
  clear HG hc
  have hc := gat_cell hG1 h0
  have HG := Lib.hid hG1
  clear hG1
  go_wp2_with fail
  refine (gat_small _ _ _ _ _ _ HG.out (by simp)).mono ?_
  rintro e w1 ⟨rfl, hG1⟩
  clear HG hc
  have hc := gat_cell hG1 h0
  obtain ⟨v, hv, ho, hb⟩ := gat_end hG1
  have HO := Lib.hid ho
  have HB := Lib.hid hb
  clear ho hb hG1
  go_wp2
  go_ret2
  exact ⟨v, rfl, HO.out, HB.out⟩

set_option maxRecDepth 100000 in
theorem request_fields_8 (g : Nat) (D : Array Value) (w : World) (hg : Blk w g 32 D) (h0 : D[0]? = some (.int .i64 8)) :
    Calls Tryd.prog 30 #[.pointer (some ⟨g, 0, none⟩)] w fun e w' => ∃ v, e = .returned (.tuple #[v, .bool true]) ∧ w'.ownsRow w.heap.size 82 4 v 2 (fldvs g [(1, 1, 35), (1, 1, 39)]) ∧ Below w.heap.size w w' := by
  have hmf : ∀ (fn : Fn) (first cap : Array Value) (w : World), (Instr.makeFunc fn first cap).run Tryd.prog w = .ok (.func fn first cap) w := fun _ _ _ _ => rfl
  have HG := Lib.hid (gat_new w g D hg)
  have hc := gat_cell HG.out h0
  have ht : treesB 8 = true := rfl
  go_enter Tryd.func30, Tryd.ntmps30
  go_wp2_with fail
  refine (request_trees _ _).mono ?_
  rintro e w1 ⟨rfl, rfl⟩
  go_wp2_with fail
  refine (gat_small _ _ _ _ _ _ HG.out (by simp)).mono ?_
  rintro e w1 ⟨rfl, hG1⟩
  clear HG hc
  have hc := gat_cell hG1 h0
  have HG := Lib.hid hG1
  clear hG1
  go_wp2_with fail
  refine (gat_small _ _ _ _ _ _ HG.out (by simp)).mono ?_
  rintro e w1 ⟨rfl, hG1⟩
  clear HG hc
  have hc := gat_cell hG1 h0
  obtain ⟨v, hv, ho, hb⟩ := gat_end hG1
  have HO := Lib.hid ho
  have HB := Lib.hid hb
  clear ho hb hG1
  go_wp2
  go_ret2
  exact ⟨v, rfl, HO.out, HB.out⟩

set_option maxRecDepth 100000 in
theorem request_fields_9 (g : Nat) (D : Array Value) (w : World) (hg : Blk w g 32 D) (h0 : D[0]? = some (.int .i64 9)) :
    Calls Tryd.prog 30 #[.pointer (some ⟨g, 0, none⟩)] w fun e w' => ∃ v, e = .returned (.tuple #[v, .bool true]) ∧ w'.ownsRow w.heap.size 82 4 v 1 (fldvs g [(1, 1, 35)]) ∧ Below w.heap.size w w' := by
  have hmf : ∀ (fn : Fn) (first cap : Array Value) (w : World), (Instr.makeFunc fn first cap).run Tryd.prog w = .ok (.func fn first cap) w := fun _ _ _ _ => rfl
  have HG := Lib.hid (gat_new w g D hg)
  have hc := gat_cell HG.out h0
  have ht : treesB 9 = true := rfl
  go_enter Tryd.func30, Tryd.ntmps30
  go_wp2_with fail
  refine (request_trees _ _).mono ?_
  rintro e w1 ⟨rfl, rfl⟩
  go_wp2_with fail
  refine (gat_small _ _ _ _ _ _ HG.out (by simp)).mono ?_
  rintro e w1 ⟨rfl, hG1⟩
  clear HG hc
  have hc := gat_cell hG1 h0
  obtain ⟨v, hv, ho, hb⟩ := gat_end hG1
  have HO := Lib.hid ho
  have HB := Lib.hid hb
  clear ho hb hG1
  go_wp2
  go_ret2
  exact ⟨v, rfl, HO.out, HB.out⟩

set_option maxRecDepth 100000 in
theorem request_fields_10 (g : Nat) (D : Array Value) (w : World) (hg : Blk w g 32 D) (h0 : D[0]? = some (.int .i64 10)) :
    Calls Tryd.prog 30 #[.pointer (some ⟨g, 0, none⟩)] w fun e w' => ∃ v, e = .returned (.tuple #[v, .bool true]) ∧ w'.ownsRow w.heap.size 82 4 v 3 (fldvs g [(1, 1, 36), (1, 1, 37), (8, 3, 46)]) ∧ Below w.heap.size w w' := by
  have hmf : ∀ (fn : Fn) (first cap : Array Value) (w : World), (Instr.makeFunc fn first cap).run Tryd.prog w = .ok (.func fn first cap) w := fun _ _ _ _ => rfl
  have HG := Lib.hid (gat_new w g D hg)
  have hc := gat_cell HG.out h0
  have ht : treesB 10 = false := rfl
  go_enter Tryd.func30, Tryd.ntmps30
  go_wp2_with fail
  refine (request_trees _ _).mono ?_
  rintro e w1 ⟨rfl, rfl⟩
  go_wp2_with fail
  refine (gat_small _ _ _ _ _ _ HG.out (by simp)).mono ?_
  rintro e w1 ⟨rfl, hG1⟩
  clear HG hc
  have hc := gat_cell hG1 h0
  have HG := Lib.hid hG1
  clear hG1
  go_wp2_with fail
  refine (gat_small _ _ _ _ _ _ HG.out (by simp)).mono ?_
  rintro e w1 ⟨rfl, hG1⟩
  clear HG hc
  have hc := gat_cell hG1 h0
  have HG := Lib.hid hG1
  clear hG1
  go_wp2_with fail
  refine (gat_big _ _ _ _ _ _ HG.out (by simp)).mono ?_
  rintro e w1 ⟨rfl, hG1⟩
  clear HG hc
  have hc := gat_cell hG1 h0
  obtain ⟨v, hv, ho, hb⟩ := gat_end hG1
  have HO := Lib.hid ho
  have HB := Lib.hid hb
  clear ho hb hG1
  go_wp2
  go_ret2
  exact ⟨v, rfl, HO.out, HB.out⟩

set_option maxRecDepth 100000 in
theorem request_fields_11 (g : Nat) (D : Array Value) (w : World) (hg : Blk w g 32 D) (h0 : D[0]? = some (.int .i64 11)) :
    Calls Tryd.prog 30 #[.pointer (some ⟨g, 0, none⟩)] w fun e w' => ∃ v, e = .returned (.tuple #[v, .bool true]) ∧ w'.ownsRow w.heap.size 82 4 v 1 (fldvs g [(4, 2, 40)]) ∧ Below w.heap.size w w' := by
  have hmf : ∀ (fn : Fn) (first cap : Array Value) (w : World), (Instr.makeFunc fn first cap).run Tryd.prog w = .ok (.func fn first cap) w := fun _ _ _ _ => rfl
  have HG := Lib.hid (gat_new w g D hg)
  have hc := gat_cell HG.out h0
  have ht : treesB 11 = false := rfl
  go_enter Tryd.func30, Tryd.ntmps30
  go_wp2_with fail
  refine (request_trees _ _).mono ?_
  rintro e w1 ⟨rfl, rfl⟩
  go_wp2_with fail
  refine (gat_mid _ _ _ _ _ _ HG.out (by simp)).mono ?_
  rintro e w1 ⟨rfl, hG1⟩
  clear HG hc
  have hc := gat_cell hG1 h0
  obtain ⟨v, hv, ho, hb⟩ := gat_end hG1
  have HO := Lib.hid ho
  have HB := Lib.hid hb
  clear ho hb hG1
  go_wp2
  go_ret2
  exact ⟨v, rfl, HO.out, HB.out⟩

set_option maxRecDepth 100000 in
theorem request_fields_12 (g : Nat) (D : Array Value) (w : World) (hg : Blk w g 32 D) (h0 : D[0]? = some (.int .i64 12)) :
    Calls Tryd.prog 30 #[.pointer (some ⟨g, 0, none⟩)] w fun e w' => ∃ v, e = .returned (.tuple #[v, .bool true]) ∧ w'.ownsRow w.heap.size 82 4 v 4 (fldvs g [(1, 1, 36), (4, 2, 43), (4, 2, 44), (4, 2, 45)]) ∧ Below w.heap.size w w' := by
  have hmf : ∀ (fn : Fn) (first cap : Array Value) (w : World), (Instr.makeFunc fn first cap).run Tryd.prog w = .ok (.func fn first cap) w := fun _ _ _ _ => rfl
  have HG := Lib.hid (gat_new w g D hg)
  have hc := gat_cell HG.out h0
  have ht : treesB 12 = false := rfl
  go_enter Tryd.func30, Tryd.ntmps30
  go_wp2_with fail
  refine (request_trees _ _).mono ?_
  rintro e w1 ⟨rfl, rfl⟩
  go_wp2_with fail
  refine (gat_small _ _ _ _ _ _ HG.out (by simp)).mono ?_
  rintro e w1 ⟨rfl, hG1⟩
  clear HG hc
  have hc := gat_cell hG1 h0
  have HG := Lib.hid hG1
  clear hG1
  go_wp2_with fail
  refine (gat_mid _ _ _ _ _ _ HG.out (by simp)).mono ?_
  rintro e w1 ⟨rfl, hG1⟩
  clear HG hc
  have hc := gat_cell hG1 h0
  have HG := Lib.hid hG1
  clear hG1
  go_wp2_with fail
  refine (gat_mid _ _ _ _ _ _ HG.out (by simp)).mono ?_
  rintro e w1 ⟨rfl, hG1⟩
  clear HG hc
  have hc := gat_cell hG1 h0
  have HG := Lib.hid hG1
  clear hG1
  go_wp2_with fail
  refine (gat_mid _ _ _ _ _ _ HG.out (by simp)).mono ?_
  rintro e w1 ⟨rfl, hG1⟩
  clear HG hc
  have hc := gat_cell hG1 h0
  obtain ⟨v, hv, ho, hb⟩ := gat_end hG1
  have HO := Lib.hid ho
  have HB := Lib.hid hb
  clear ho hb hG1
  go_wp2
  go_ret2
  exact ⟨v, rfl, HO.out, HB.out⟩

set_option maxRecDepth 100000 in
theorem request_fields_none (g : Nat) (D : Array Value) (op : Int) (w : World) (hg : Blk w g 32 D) (h0 : D[0]? = some (.int .i64 op)) (h1 : op ≠ 1) (h2 : op ≠ 2) (h3 : op ≠ 3) (h4 : op ≠ 4) (h5 : op ≠ 5) (h6 : op ≠ 6) (h7 : op ≠ 7) (h8 : op ≠ 8) (h9 : op ≠ 9) (h10 : op ≠ 10) (h11 : op ≠ 11) (h12 : op ≠ 12) :
    Calls Tryd.prog 30 #[.pointer (some ⟨g, 0, none⟩)] w fun e w' => e = .returned (.tuple #[.slice none 0 0, .bool false]) ∧ Below w.heap.size w w' := by
  have hmf : ∀ (fn : Fn) (first cap : Array Value) (w : World), (Instr.makeFunc fn first cap).run Tryd.prog w = .ok (.func fn first cap) w := fun _ _ _ _ => rfl
  have HG := Lib.hid (gat_new w g D hg)
  have hc := gat_cell HG.out h0
  have ht : treesB op = false := by simp only [treesB, decide_eq_false_iff_not]; omega
  go_enter Tryd.func30, Tryd.ntmps30
  go_wp2_with fail
  refine (request_trees _ _).mono ?_
  rintro e w1 ⟨rfl, rfl⟩
  go_wp2
  go_ret2
  exact ⟨rfl, HG.out.2.2.2⟩

theorem request_fields (g : Nat) (D : Array Value) (op : Int) (w : World) (hg : Blk w g 32 D) (h0 : D[0]? = some (.int .i64 op)) :
    Calls Tryd.prog 30 #[.pointer (some ⟨g, 0, none⟩)] w fun e w' => ∃ v, e = .returned (.tuple #[v, .bool (fieldsOf op).isSome]) ∧ w'.ownsRow w.heap.size 82 4 v ((fieldsOf op).getD []).length (fldvs g ((fieldsOf op).getD [])) ∧ Below w.heap.size w w' := by
  by_cases h1 : op = 1
  · subst h1
    exact request_fields_1 g D w hg h0
  by_cases h2 : op = 2
  · subst h2
    exact request_fields_2 g D w hg h0
  by_cases h3 : op = 3
  · subst h3
    exact request_fields_3 g D w hg h0
  by_cases h4 : op = 4
  · subst h4
    exact request_fields_4 g D w hg h0
  by_cases h5 : op = 5
  · subst h5
    exact request_fields_5 g D w hg h0
  by_cases h6 : op = 6
  · subst h6
    exact request_fields_6 g D w hg h0
  by_cases h7 : op = 7
  · subst h7
    exact request_fields_7 g D w hg h0
  by_cases h8 : op = 8
  · subst h8
    exact request_fields_8 g D w hg h0
  by_cases h9 : op = 9
  · subst h9
    exact request_fields_9 g D w hg h0
  by_cases h10 : op = 10
  · subst h10
    exact request_fields_10 g D w hg h0
  by_cases h11 : op = 11
  · subst h11
    exact request_fields_11 g D w hg h0
  by_cases h12 : op = 12
  · subst h12
    exact request_fields_12 g D w hg h0
  have hn : fieldsOf op = none := by simp [fieldsOf, h1, h2, h3, h4, h5, h6, h7, h8, h9, h10, h11, h12]
  rw [hn]
  refine (request_fields_none g D op w hg h0 h1 h2 h3 h4 h5 h6 h7 h8 h9 h10 h11 h12).mono ?_
  rintro e w' ⟨rfl, hb⟩
  exact ⟨_, rfl, World.ownsRow_nil .., hb⟩

end Go.Proofs.YtbkdccamimakoaaDoor
