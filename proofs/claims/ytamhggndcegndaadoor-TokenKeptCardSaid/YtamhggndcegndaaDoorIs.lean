/-
  errors.Is at a *codec.Refusal and its number (after the kit's worked example Sentry); refused.
-/
import Derived.Test.YtamhggndcegndaaDoorReader
import Derived.WalkKit
import Derived.LaidEql
import Derived.Stop.Asserts
import Derived.RowKitTokens
import Derived.Lib.IfaceEq
namespace Go.Proofs.YtamhggndcegndaaDoor
open Go.RowKit Go.Extern.Stop Go.Stop Go.Extern
set_option linter.unusedVariables false
set_option maxRecDepth 100000

theorem Is.typeOf (v : Value) (w : World) : (Extern.ReflectliteType.typeOf #[.iface 33 v]).run Tryd.prog w = .ok (.iface 152 (.agg #[.pointer (some ⟨3, 33, none⟩)])) w := by kernel_rfl

theorem Is.comparable (w : World) : ((Extern.ReflectliteType.method fun t => do Rtype.noPackHeld "Comparable" t; pure (.bool (← typeInfo t).comparable)) #[.agg #[.pointer (some ⟨3, 33, none⟩)]]).run Tryd.prog w = .ok (.bool true) w := by kernel_rfl

theorem Is.methodComparable (v : Value) (w : World) : (Go.method 298 152 v "Comparable").run Tryd.prog w = .ok (115, v) w := by kernel_rfl

theorem Is.comp : (Tryd.prog.info? 33).map (·.comparable) = some true := by kernel_rfl

theorem Is.noIs (v : Value) (xT : TypeId) (w : World) : (Instr.typeAssert (.iface 101 v) xT 163 true).run Tryd.prog w = .ok (.tuple #[.nilIface, .bool false]) w := run_typeAssert_lacksB Tryd.underlying163 (by kernel_rfl) (by kernel_rfl) v xT w

theorem Is.hasUnwrap (v : Value) (xT : TypeId) (w : World) : (Instr.typeAssert (.iface 101 v) xT 159 true).run Tryd.prog w = .ok (.tuple #[.iface 101 v, .bool true]) w := run_typeAssert_hasB Tryd.underlying159 (by kernel_rfl) v xT w

theorem Is.methodUnwrap (v : Value) (w : World) : (Go.method 298 101 v "Unwrap").run Tryd.prog w = .ok (109, v) w := by kernel_rfl

set_option maxHeartbeats 4000000 in
theorem errors_is_hit (h a y : Nat) (w : World) (hb : Blk w h 113 #[.int .i64 (a : Int), .int .i64 (y : Int)]) :
    Calls Tryd.prog 61 #[.iface 101 (.pointer (some ⟨h, 0, none⟩)), .iface 33 (.int .i64 (y : Int))] w fun e w' => e = .returned (.bool true) ∧ w' = w := by
  have h1 := hb.cell 1
  rw [show (#[Value.int .i64 (a : Int), .int .i64 (y : Int)] : Array Value)[1]? = some (.int .i64 (y : Int)) from rfl] at h1
  have h8 := @run_callFunc_extern Tryd.prog 78 _ Extern.ReflectliteType.typeOf Tryd.func78 (by kernel_rfl) (by kernel_rfl) (by kernel_rfl) (by kernel_rfl)
  have h32 := @run_callFunc_extern Tryd.prog 115 _ (Extern.ReflectliteType.method fun t => do Rtype.noPackHeld "Comparable" t; pure (.bool (← typeInfo t).comparable)) Tryd.func115 (by kernel_rfl) (by kernel_rfl) (by kernel_rfl) (by kernel_rfl)
  have tT := Is.typeOf
  have cT := Is.comparable
  obtain ⟨F, hF⟩ : ∃ F, (Extern.ReflectliteType.method fun t => do Rtype.noPackHeld "Comparable" t; pure (.bool (← typeInfo t).comparable)) = F := ⟨_, rfl⟩
  rw [hF] at h32
  simp only [hF] at cT
  clear hF
  have mR := Is.methodComparable
  have nW := Is.noIs
  have uW := Is.hasUnwrap
  have mU := Is.methodUnwrap
  have heq := Lib.run_eql_iface_int (P := Tryd.prog) (k := .i64) w (y : Int) y Tryd.underlying61 Is.comp Tryd.underlying33
  rw [show ((y : Int) == (y : Int)) = true by simp] at heq
  have hty := run_eql_iface_types (P := Tryd.prog) 101 33 (.pointer (some ⟨h, 0, none⟩)) (.int .i64 (y : Int)) Tryd.underlying61 (by decide) w
  clear hb
  go_enter Tryd.func61, Tryd.ntmps61
  go_wp2
  refine wp_loop_rounds 2 ?_
  rw [rounds_succ]
  go_wp2
  rw [rounds_succ]
  go_wp2
  go_ret
  exact ⟨rfl, rfl⟩

theorem Is.isRefusal (p : Option Addr) (w : World) : (Instr.typeAssert (.iface 101 (.pointer p)) 61 101 true).run Tryd.prog w = .ok (.tuple #[.pointer p, .bool true]) w := by kernel_rfl

/-- Where, and why; 0 and 0: nothing. -/
def atOf : Option (Nat × Nat) → Nat
  | none => 0
  | some x => x.1

def whyOf : Option (Nat × Nat) → Nat
  | none => 0
  | some x => x.2

set_option maxHeartbeats 4000000 in
theorem refused12 (E : Option (Nat × Nat)) (v : Value) (B : Nat) (w : World) (h : RErr w B v E) (hy : ∀ x, E = some x → x.2 ≠ 0) :
    Calls Tryd.prog 32 #[v, .int .i64 (atOf E : Nat), .int .i64 (whyOf E : Nat)] w fun e w' => e = .returned (.bool true) ∧ w' = w := by
  cases E with
  | none =>
    have hv : v = .nilIface := h
    subst hv
    show Calls Tryd.prog 32 #[.nilIface, .int .i64 ((0 : Nat) : Int), .int .i64 ((0 : Nat) : Int)] w _
    go_enter Tryd.func32, Tryd.ntmps32
    go_wp2
    go_ret
    exact ⟨rfl, rfl⟩
  | some x =>
    obtain ⟨a, y⟩ := x
    obtain ⟨k, rfl, hB, hb⟩ := h
    have hy' : ¬ (y : Int) = 0 := by have := hy _ rfl; dsimp only at this; omega
    have h0 := hb.cell 0
    have h1 := hb.cell 1
    rw [show (#[Value.int .i64 (a : Int), .int .i64 (y : Int)] : Array Value)[0]? = some (.int .i64 (a : Int)) from rfl] at h0
    rw [show (#[Value.int .i64 (a : Int), .int .i64 (y : Int)] : Array Value)[1]? = some (.int .i64 (y : Int)) from rfl] at h1
    have hta := Is.isRefusal (some ⟨k, 0, none⟩)
    have HI := Lib.hid (errors_is_hit k a y w hb)
    clear hb
    show Calls Tryd.prog 32 #[.iface 101 (.pointer (some ⟨k, 0, none⟩)), .int .i64 (a : Int), .int .i64 (y : Int)] w _
    go_enter Tryd.func32, Tryd.ntmps32
    go_wp2_with fail
    refine HI.out.mono ?_
    rintro e w' ⟨rfl, rfl⟩
    go_wp2
    go_ret
    exact ⟨rfl, rfl⟩

end Go.Proofs.YtamhggndcegndaaDoor
