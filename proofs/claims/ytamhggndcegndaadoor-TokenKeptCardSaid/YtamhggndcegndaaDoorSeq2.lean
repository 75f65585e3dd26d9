/-
  More on regions in one order: a whole struct loaded.
-/
import Derived.Test.YtamhggndcegndaaDoorSeq
import Derived.Deep.MidRow
namespace Go.Proofs.YtamhggndcegndaaDoor
open Go
set_option linter.unusedVariables false

section
variable {P : Program} {Q : Exit → Act → World → Prop} {S : World → Prop} {n : Nat}
theorem wpSeq_load {l : List Oper} {i : Nat} {r : List (Nat × Bool)} {a : Act} {w : World} {op : Oper} (hi : nth l i = some op) (hw : Region.wanted op (yielded l.toArray a.tmps) = true)
    (ty : TypeId) (x : Operand) (ho : op.op = .load ty x) (b o : Nat) (hx : a.eval x = .pointer (some ⟨b, o, none⟩)) (cs : List Value) (d : TypeDesc) (hS : ∀ w, S w → w.rangeAt b o cs)
    (hu : P.underlying ty = some d) (hd : d.isRow = true) (hsz : (P.info? ty).map (·.size) = some cs.length)
    (h : wpSeq P l.toArray Q S n r (a.put op.dst (.agg cs.toArray)) w) : wpSeq P l.toArray Q S n ((i, false) :: r) a w :=
  ⟨op, _, (nth_eq l i).symm.trans hi, yieldsIf_load_mid hw ty x ho b o hx cs d hS hu hd hsz, h⟩
end

end Go.Proofs.YtamhggndcegndaaDoor
