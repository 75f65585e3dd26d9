/-
  Signed heads compared.
-/
import Derived.Test.YtbkdccamimakoaaDoorRspSpec
namespace Go.Proofs.YtbkdccamimakoaaDoor
open Go.RowKit
open Go.Extern.Stop (cell)
set_option linter.unusedVariables false
set_option maxRecDepth 100000

theorem fieldsOf_eq {P : Program} {t : TypeId} {fs : Array Field} (h : P.underlying t = some (.struct fs)) : P.fieldsOf t = fs := by
  unfold Program.fieldsOf
  rw [h]

theorem eqFields_nil {P : Program} {w : World} {d : Nat} {xs ys : Array Value} : (Op.eqFields d xs ys []).run P w = .ok true w := by simp [Op.eqFields]

theorem eqFields_and {P : Program} {w : World} {d : Nat} {xs ys : Array Value} {f : Field} {fs : List Field} {a b : Value} {r s : Bool} (hn : f.name ≠ "_") (pa : (part f.type xs f.offset).run P w = .ok a w) (pb : (part f.type ys f.offset).run P w = .ok b w)
    (pe : (Op.equalIn d f.type a b).run P w = .ok r w) (hr : (Op.eqFields d xs ys fs).run P w = .ok s w) : (Op.eqFields d xs ys (f :: fs)).run P w = .ok (r && s) w := by
  simp only [Op.eqFields, hn, ne_eq, not_false_eq_true, if_true, Sem.run_bind, pa, pb, pe, Result.andThen_ok]
  cases r <;> simp [hr]

theorem Tryd.hd_size : ∀ w : World, (sizeOf 53).run Tryd.prog w = .ok 36 w := fun w => by kernel_rfl

theorem Tryd.dg_size : ∀ w : World, (sizeOf 27).run Tryd.prog w = .ok 32 w := fun w => by kernel_rfl

/-- The cells of a head without its tag. -/
def headv (h : Hd) : List Value := .int .i64 h.tree :: .int .i64 h.epoch :: .int .u64 (h.size : Int) :: .int .u64 (h.clock : Int) :: byv h.root

theorem hdv_split (h : Hd) : hdv h = headv h ++ byv h.tag := rfl

theorem headv_len (h : Hd) (ho : h.root.length = 32) : (headv h).length = 36 := by simp [headv, byv_length, ho]

theorem hdv_len (h : Hd) (ho : h.Ok) : (hdv h).length = 68 := by rw [hdv_split, List.length_append, headv_len h ho.rootl, byv_length, ho.tagl]

theorem part_head (w : World) (h : Hd) (ho : h.Ok) : (part 53 (hdv h).toArray 0).run Tryd.prog w = .ok (.agg (headv h).toArray) w := by
  have e : List.take 36 (hdv h) = headv h := by
    rw [hdv_split]
    exact List.take_left' (headv_len h ho.rootl)
  simp [part, isAgg, run_underlying Tryd.underlying53, Tryd.hd_size, e]

theorem part_tag (w : World) (h : Hd) (ho : h.Ok) : (part 27 (hdv h).toArray 36).run Tryd.prog w = .ok (.agg (byv h.tag).toArray) w := by
  have e : List.take 32 (List.drop 36 (hdv h)) = byv h.tag := by
    rw [hdv_split, List.drop_left' (headv_len h ho.rootl)]
    exact List.take_of_length_le (by rw [byv_length, ho.tagl]; omega)
  simp [part, isAgg, run_underlying Tryd.underlying27, Tryd.dg_size, e]

theorem part_root (w : World) (h : Hd) (ho : h.Ok) : (part 27 (headv h).toArray 4).run Tryd.prog w = .ok (.agg (byv h.root).toArray) w := by
  have e : List.take 32 (List.drop 4 (headv h)) = byv h.root := by
    show (byv h.root).take 32 = _
    exact List.take_of_length_le (by rw [byv_length, ho.rootl]; omega)
  simp [part, isAgg, run_underlying Tryd.underlying27, Tryd.dg_size, e]

theorem part_int (w : World) (h : Hd) (i : Nat) (v : Value) (t : TypeId) (k : IntKind) (hu : (Tryd.prog).underlying t = some (.int k)) (hv : (headv h)[i]? = some v) : (part t (headv h).toArray i).run Tryd.prog w = .ok v w := by
  simp [part, isAgg, run_underlying hu, hv]

theorem equal_digest (d : Nat) (w : World) (a b : List Nat) (ha : a.length = 32) (hb : b.length = 32) (ha' : ∀ x ∈ a, x < 256) (hb' : ∀ x ∈ b, x < 256) :
    (Op.equalIn (d + 2) 27 (.agg (byv a).toArray) (.agg (byv b).toArray)).run Tryd.prog w = .ok (a == b) w := by
  have e : ∀ l : List Nat, (∀ x ∈ l, x < 256) → byv l = (l.map UInt8.ofNat).map cell := by
    intro l hl
    unfold byv
    rw [List.map_map]
    refine List.map_congr_left fun x hx => ?_
    have := hl x hx
    simp [cell, Function.comp, UInt8.toNat_ofNat, Nat.mod_eq_of_lt this]
  have key : (List.map UInt8.ofNat a == List.map UInt8.ofNat b) = (a == b) := by
    rw [Bool.eq_iff_iff]
    simp only [beq_iff_eq]
    constructor
    · have key : ∀ (a b : List Nat), (∀ x ∈ a, x < 256) → (∀ x ∈ b, x < 256) → a.map UInt8.ofNat = b.map UInt8.ofNat → a = b := by
        intro a
        induction a with
        | nil => intro b _ _ h; simpa using h.symm
        | cons x a ih =>
          intro b ha hb h
          cases b with
          | nil => simp at h
          | cons y b =>
            simp only [List.map_cons, List.cons.injEq] at h
            have h1 := congrArg UInt8.toNat h.1
            have hx := ha x (by simp)
            have hy := hb y (by simp)
            simp [UInt8.toNat_ofNat, Nat.mod_eq_of_lt hx, Nat.mod_eq_of_lt hy] at h1
            rw [h1, ih b (fun z hz => ha z (by simp [hz])) (fun z hz => hb z (by simp [hz])) h.2]
      exact key a b ha' hb'
    · rintro rfl; rfl
  rw [e a ha', e b hb', run_equalIn_bytes w d 27 5 32 Tryd.underlying27 Tryd.underlying5 (fun _ => by kernel_rfl) _ _ (by simpa using ha) (by simpa using hb), key]

theorem equal_head (d : Nat) (w : World) (h k : Hd) (ho : h.Ok) (ko : k.Ok) :
    (Op.equalIn (d + 3) 53 (.agg (headv h).toArray) (.agg (headv k).toArray)).run Tryd.prog w = .ok (decide (h.tree = k.tree ∧ h.epoch = k.epoch ∧ h.size = k.size ∧ h.clock = k.clock ∧ h.root = k.root)) w := by
  have hf := fieldsOf_eq (P := Tryd.prog) Tryd.underlying53
  have hp : (Tryd.prog).stoodInHeld 53 = false := by kernel_rfl
  have hu : (Tryd.prog).underlying 53 = some (.struct ((Tryd.prog).fieldsOf 53)) := by rw [hf]; exact Tryd.underlying53
  rw [run_equalIn_struct w (d + 2) 53 _ _ hu hp, hf]
  have e1 := fun x y => run_equalIn_int w (d + 1) 3 .i64 .i64 x y Tryd.underlying3
  have e2 := fun x y => run_equalIn_int w (d + 1) 30 .u64 .u64 x y Tryd.underlying30
  have e3 := equal_digest d w h.root k.root ho.rootl ko.rootl ho.rootb ko.rootb
  have p0 := fun h : Hd => part_int w h 0 (.int .i64 h.tree) 3 .i64 Tryd.underlying3 rfl
  have p1 := fun h : Hd => part_int w h 1 (.int .i64 h.epoch) 3 .i64 Tryd.underlying3 rfl
  have p2 := fun h : Hd => part_int w h 2 (.int .u64 (h.size : Int)) 30 .u64 Tryd.underlying30 rfl
  have p3 := fun h : Hd => part_int w h 3 (.int .u64 (h.clock : Int)) 30 .u64 Tryd.underlying30 rfl
  have p4 := part_root w h ho
  have p5 := part_root w k ko
  refine (eqFields_and (by decide) (p0 h) (p0 k) (e1 _ _) (eqFields_and (by decide) (p1 h) (p1 k) (e1 _ _) (eqFields_and (by decide) (p2 h) (p2 k) (e2 _ _) (eqFields_and (by decide) (p3 h) (p3 k) (e2 _ _) (eqFields_and (by decide) p4 p5 e3 eqFields_nil))))).trans ?_
  congr 1
  rw [Bool.eq_iff_iff]
  simp only [Bool.and_eq_true, beq_iff_eq, decide_eq_true_eq, and_true, Int.natCast_inj]

theorem equal_signed (d : Nat) (w : World) (h k : Hd) (ho : h.Ok) (ko : k.Ok) :
    (Op.equalIn (d + 4) 55 (.agg (hdv h).toArray) (.agg (hdv k).toArray)).run Tryd.prog w = .ok (decide (h = k)) w := by
  have hf := fieldsOf_eq (P := Tryd.prog) Tryd.underlying55
  have hp : (Tryd.prog).stoodInHeld 55 = false := by kernel_rfl
  have hu : (Tryd.prog).underlying 55 = some (.struct ((Tryd.prog).fieldsOf 55)) := by rw [hf]; exact Tryd.underlying55
  rw [run_equalIn_struct w (d + 3) 55 _ _ hu hp, hf]
  have e1 := equal_head d w h k ho ko
  have e3 := equal_digest (d + 1) w h.tag k.tag ho.tagl ko.tagl ho.tagb ko.tagb
  have p0 := fun (h : Hd) ho => part_head w h ho
  have p1 := fun (h : Hd) ho => part_tag w h ho
  refine (eqFields_and (by decide) (p0 h ho) (p0 k ko) e1 (eqFields_and (by decide) (p1 h ho) (p1 k ko) e3 eqFields_nil)).trans ?_
  congr 1
  rw [Bool.eq_iff_iff]
  simp only [Bool.and_eq_true, beq_iff_eq, decide_eq_true_eq, and_true]
  have hiff : h = k ↔ (h.tree = k.tree ∧ h.epoch = k.epoch ∧ h.size = k.size ∧ h.clock = k.clock ∧ h.root = k.root) ∧ h.tag = k.tag := by
    obtain ⟨a, b, c, d, e, f⟩ := h
    obtain ⟨a', b', c', d', e', f'⟩ := k
    simp only [Hd.mk.injEq]
    simp only [and_assoc]
  exact hiff.symm

theorem run_eql_signed (w : World) (h k : Hd) (ho : h.Ok) (ko : k.Ok) : (binOp .eql 55 (.agg (hdv h).toArray) (.agg (hdv k).toArray)).run Tryd.prog w = .ok (.bool (decide (h = k))) w := by
  rw [run_eql_struct, equal_signed 9996 w h k ho ko]
  rfl

theorem run_neq_signed (w : World) (h k : Hd) (ho : h.Ok) (ko : k.Ok) : (binOp .neq 55 (.agg (hdv h).toArray) (.agg (hdv k).toArray)).run Tryd.prog w = .ok (.bool !(decide (h = k))) w := by
  rw [run_neq_struct, equal_signed 9996 w h k ho ko]
  rfl

end Go.Proofs.YtbkdccamimakoaaDoor
