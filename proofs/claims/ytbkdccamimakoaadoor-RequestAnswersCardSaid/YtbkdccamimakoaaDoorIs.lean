/-
  errors.Is at a *codec.Refusal and its number (after the kit's worked example Sentry); refused.
-/
import Derived.Test.YtbkdccamimakoaaDoorReader
import Derived.WalkKit
import Derived.LaidEql
import Derived.Stop.Asserts
import Derived.RowKitTokens
import Derived.Lib.IfaceEq
namespace Go.Proofs.YtbkdccamimakoaaDoor
open Go.RowKit Go.Extern.Stop Go.Stop Go.Extern
set_option linter.unusedVariables false
set_option maxRecDepth 100000

theorem Is.typeOf (v : Value) (w : World) : (Extern.ReflectliteType.typeOf #[.iface 44 v]).run Tryd.prog w = .ok (.iface 148 (.agg #[.pointer (some ⟨1, 44, none⟩)])) w := by kernel_rfl

theorem Is.comparable (w : World) : ((Extern.ReflectliteType.method fun t => do Rtype.noPackHeld "Comparable" t; pure (.bool (← typeInfo t).comparable)) #[.agg #[.pointer (some ⟨1, 44, none⟩)]]).run Tryd.prog w = .ok (.bool true) w := by kernel_rfl

theorem Is.methodComparable (v : Value) (w : World) : (Go.method 291 148 v "Comparable").run Tryd.prog w = .ok (107, v) w := by kernel_rfl

theorem Is.comp : (Tryd.prog.info? 44).map (·.comparable) = some true := by kernel_rfl

theorem Is.noIs (v : Value) (xT : TypeId) (w : World) : (Instr.typeAssert (.iface 91 v) xT 150 true).run Tryd.prog w = .ok (.tuple #[.nilIface, .bool false]) w := run_typeAssert_lacksB Tryd.underlying150 (by kernel_rfl) (by kernel_rfl) v xT w

theorem Is.hasUnwrap (v : Value) (xT : TypeId) (w : World) : (Instr.typeAssert (.iface 91 v) xT 153 true).run Tryd.prog w = .ok (.tuple #[.iface 91 v, .bool true]) w := run_typeAssert_hasB Tryd.underlying153 (by kernel_rfl) v xT w

theorem Is.methodUnwrap (v : Value) (w : World) : (Go.method 291 91 v "Unwrap").run Tryd.prog w = .ok (101, v) w := by kernel_rfl

set_option maxHeartbeats 4000000 in
theorem errors_is_hit (h a y : Nat) (w : World) (hb : Blk w h 94 #[.int .i64 (a : Int), .int .i64 (y : Int)]) :
    Calls Tryd.prog 37 #[.iface 91 (.pointer (some ⟨h, 0, none⟩)), .iface 44 (.int .i64 (y : Int))] w fun e w' => e = .returned (.bool true) ∧ w' = w := by
  have h1 := hb.cell 1
  rw [show (#[Value.int .i64 (a : Int), .int .i64 (y : Int)] : Array Value)[1]? = some (.int .i64 (y : Int)) from rfl] at h1
  have h8 := @run_callFunc_extern Tryd.prog 73 _ Extern.ReflectliteType.typeOf Tryd.func73 (by kernel_rfl) (by kernel_rfl) (by kernel_rfl) (by kernel_rfl)
  have h32 := @run_callFunc_extern Tryd.prog 107 _ (Extern.ReflectliteType.method fun t => do Rtype.noPackHeld "Comparable" t; pure (.bool (← typeInfo t).comparable)) Tryd.func107 (by kernel_rfl) (by kernel_rfl) (by kernel_rfl) (by kernel_rfl)
  have tT := Is.typeOf
  have cT := Is.comparable
  obtain ⟨F, hF⟩ : ∃ F, (Extern.ReflectliteType.method fun t => do Rtype.noPackHeld "Comparable" t; pure (.bool (← typeInfo t).comparable)) = F := ⟨_, rfl⟩
  rw [hF] at h32
  simp only [hF] at cT
  clear hF
  have mR := Is.methodComparable
  have nW := Is.noIs
  have uW := Is.hasUnwrap
  have mU := Is.methodUnwrap
  have heq := Lib.run_eql_iface_int (P := Tryd.prog) (k := .i64) w (y : Int) y Tryd.underlying34 Is.comp Tryd.underlying44
  rw [show ((y : Int) == (y : Int)) = true by simp] at heq
  have hty := run_eql_iface_types (P := Tryd.prog) 91 44 (.pointer (some ⟨h, 0, none⟩)) (.int .i64 (y : Int)) Tryd.underlying34 (by decide) w
  clear hb
  go_enter Tryd.func37, Tryd.ntmps37
  go_wp2
  refine wp_loop_rounds 2 ?_
  rw [rounds_succ]
  go_wp2
  rw [rounds_succ]
  go_wp2
  go_ret
  exact ⟨rfl, rfl⟩

theorem Is.isRefusal (p : Option Addr) (w : World) : (Instr.typeAssert (.iface 91 (.pointer p)) 34 91 true).run Tryd.prog w = .ok (.tuple #[.pointer p, .bool true]) w := by kernel_rfl

/-- Where, and why; 0 and 0: nothing. -/
def atOf : Option (Nat × Nat) → Nat
  | none => 0
  | some x => x.1

def whyOf : Option (Nat × Nat) → Nat
  | none => 0
  | some x => x.2

set_option maxHeartbeats 4000000 in
theorem refused18 (E : Option (Nat × Nat)) (v : Value) (B : Nat) (w : World) (h : RErr w B v E) (hy : ∀ x, E = some x → x.2 ≠ 0) :
    Calls Tryd.prog 10 #[v, .int .i64 (atOf E : Nat), .int .i64 (whyOf E : Nat)] w fun e w' => e = .returned (.bool true) ∧ w' = w := by
  cases E with
  | none =>
    have hv : v = .nilIface := h
    subst hv
    show Calls Tryd.prog 10 #[.nilIface, .int .i64 ((0 : Nat) : Int), .int .i64 ((0 : Nat) : Int)] w _
    go_enter Tryd.func10, Tryd.ntmps10
    go_wp2
    go_ret
    exact ⟨rfl, rfl⟩
  | some x =>
    obtain ⟨a, y⟩ := x
    obtain ⟨k, rfl, hB, hb⟩ := h
    have hy' : ¬ (y : Int) = 0 := by have := hy _ rfl; dsimp only at this; omega
    have h0 := hb.cell 0
    have h1 := hb.cell 1
    rw [show (#[Value.int .i64 (a : Int), .int .i64 (y : Int)] : Array Value)[0]? = some (.int .i64 (a : Int)) from rfl] at h0
    rw [show (#[Value.int .i64 (a : Int), .int .i64 (y : Int)] : Array Value)[1]? = some (.int .i64 (y : Int)) from rfl] at h1
    have hta := Is.isRefusal (some ⟨k, 0, none⟩)
    have HI := Lib.hid (errors_is_hit k a y w hb)
    clear hb
    show Calls Tryd.prog 10 #[.iface 91 (.pointer (some ⟨k, 0, none⟩)), .int .i64 (a : Int), .int .i64 (y : Int)] w _
    go_enter Tryd.func10, Tryd.ntmps10
    go_wp2_with fail
    refine HI.out.mono ?_
    rintro e w' ⟨rfl, rfl⟩
    go_wp2
    go_ret
    exact ⟨rfl, rfl⟩

end Go.Proofs.YtbkdccamimakoaaDoor
