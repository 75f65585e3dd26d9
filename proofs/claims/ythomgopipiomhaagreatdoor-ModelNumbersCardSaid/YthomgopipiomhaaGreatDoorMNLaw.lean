/-
  The law ModelNumbers: it returns true for every input, and leaves what was there as it was. (The frame is written by program, wip/frame.py, after the kit's skeleton.)
-/
import Derived.Test.YthomgopipiomhaaGreatDoorCards
import Derived.Test.YthomgopipiomhaaGreatDoorTie
import Derived.Deep.DeepHandedRow
import Derived.Test.YthomgopipiomhaaGreatDoorBMN26
namespace Go.Proofs.YthomgopipiomhaaGreatDoor.modelNumbers
open Go.ChangeShapes Go.WideShapes Go.ChangeAt Go.RowKit
open Go.ChangeMaps (open_string shut_string)
set_option linter.unusedVariables false
set_option linter.unusedSimpArgs false
theorem own : ownKnob Tryz.prog.godebug = none := by kernel_rfl
theorem laidOut : laidOutB Tryz.prog = true := by kernel_rfl
set_option maxRecDepth 100000 in
set_option maxHeartbeats 4000000 in
theorem law_calls {H : Type} {enc : TypeId × Value → H} {base : Nat} (W : World) (hT : Tabs W) (hE : W.cell? ⟨0, 0, none⟩ = some (.iface 327 (.agg #[.pointer (some ⟨3, 81, none⟩)])))
     :
    Calls Tryz.prog 5 #[] W fun e w' => e = .returned (.bool true) ∧ Below W.heap.size W w' := xba W hT hE
noncomputable def laidWorld (os : Os) : World :=
  { World.holding Tryz.prog os ⟨#[], #[], []⟩ with heap := (((World.holding Tryz.prog os ⟨#[], #[], []⟩).heap.modify 1 (qci qc2.vals)).modify 2 (qci (qbq Kt).toArray)).modify 0 (qci #[.iface 327 (.agg #[.pointer (some ⟨3, 81, none⟩)])]) }
def wargs : Array Value := #[]
theorem laid_met (os : Os) : laidMetH Tryz.prog Rows.modelNumbersRow.laid ((laidWorld os).forCall (fun _ _ => 0) ⟨#[], wargs, []⟩).memory :=
  laidMetH_of_parts (laidMet_of_run' 8 (by kernel_rfl) (by kernel_rfl)) (by kernel_rfl)
theorem reads (os : Os) {H : Type} (enc : TypeId × Value → H) : ∃ places, DataW.whole enc Tryz.prog ((laidWorld os).forCall (fun _ _ => 0) ⟨#[], wargs, []⟩).memory Tryz.f5.params.toList Rows.modelNumbersSpec.vars false wargs.toList 8 = some ([], [], places) :=
  ⟨[], by kernel_rfl⟩
set_option maxRecDepth 100000 in
theorem lifted (os : Os) (started : os.Started) (H : Type) (enc : TypeId × Value → H) (F : Stop.Interp) :
    ReturnsInHanded {} Tryz.checked os 5 .any ((OpenSpec.ofChange Rows.modelNumbersSpec).preRow enc Tryz.prog Tryz.f5 Rows.modelNumbersRow.domain false Rows.modelNumbersRow.laid) (((OpenSpec.ofChange Rows.modelNumbersSpec).at F).post enc Tryz.prog Tryz.f5 false true false false) := by
  obtain ⟨places, hx⟩ := reads os enc
  refine returnsInHanded_of_row (C := Tryz.checked) (s := OpenSpec.ofChange Rows.modelNumbersSpec) own started (by kernel_rfl) Tryz.func5
    (witness_row_at (enc := enc) (C := Tryz.checked) false (laidWorld os) wargs rfl (by kernel_rfl) (by kernel_rfl) (by kernel_rfl)
      (OpenSpec.preRow_of_cond 8 hx (by kernel_rfl) (fun k hk => by cases hk) (by kernel_rfl) (laid_met os))) ?_
  intro W base args ds gs before hval0 hW hcnd _ hsz0 hL _ _
  have hval : ∀ (j : Nat) t v, Tryz.f5.params[j]? = some t → args[j]? = some v → Value.okWide Tryz.prog W .any base t v := hval0
  have hW' := hW
  obtain ⟨p, q, hA0, hV, rfl, hfz, hnd⟩ := hW
  have hA : DataW.TrodAll enc Tryz.prog W 0 (fun _ => true) true Tryz.f5.params.toList args.toList ds p := hA0
  rw [Tryz.params5] at hA hval
  obtain ⟨hargs, rfl, rfl⟩ := trodAll_nil hA
  obtain rfl : args = #[] := by cases args; simp_all
  obtain ⟨rfl, rfl⟩ := trodVars_none hV
  clear hA0 hval0
  refine (law_calls (H := H) (enc := enc) (base := base) W (qcw hL).1 (qcw hL).2).mono fun e W' ⟨he, bel⟩ => ?_
  subst he
  have hp : Rows.modelNumbersSpec.post enc Tryz.prog Tryz.f5 false true false false W _ (.bool true) W' :=
    ⟨_, _, _, [], _, [], hW', trodAll_mk1 (shut_bool Tryz.underlying4 _), trodAll_mk0, rfl, bel.frame _, fun h => by cases h⟩
  exact ⟨_, rfl, hp⟩
set_option maxRecDepth 1000000
theorem k1 : Rows.modelNumbersRow.wf (OpenSpec.ofChange Rows.modelNumbersSpec) = true := by kernel_rfl
theorem k2 : laidOutB Tryz.prog = true := by kernel_rfl
theorem k3 : mapsRowed Tryz.prog = true := by kernel_rfl
theorem k4 : Tryz.f5.params.all (Tryz.prog.readableRec ·) = true := by kernel_rfl
theorem k5 : namedTie Tryz.prog Rows.modelNumbersRow.named Rows.modelNumbersSpec.vars = true := by kernel_rfl
theorem k6 : (Rows.modelNumbersRow.stops == []) = true := by kernel_rfl
theorem k7 : (Tryz.prog.stops == []) = true := by kernel_rfl
theorem k8 : (Rows.modelNumbersRow.knobs == []) = true := by kernel_rfl
theorem k9 : (Tryz.prog.stopKnobs == []) = true := by kernel_rfl
theorem k10 : (Rows.modelNumbersRow.inPlace == Tryz.prog.inPlace 5) = true := by kernel_rfl
theorem k11 : (Rows.modelNumbersRow.unfollowed == Tryz.prog.unfollowed 5) = true := by kernel_rfl
theorem k12 : (Rows.modelNumbersRow.recurses == Tryz.prog.recurses 5) = true := by kernel_rfl
theorem k13 : (Rows.modelNumbersRow.named == Tryz.prog.varsNamed 5) = true := by kernel_rfl
theorem k14 : (Rows.modelNumbersRow.maps == (Tryz.f5.params.toList ++ Rows.modelNumbersSpec.plain.varTypes Tryz.prog).any (Tryz.prog.mapsRec ·)) = true := by kernel_rfl
theorem k15 : (Rows.modelNumbersRow.ifaces == (Tryz.f5.params.toList ++ Rows.modelNumbersSpec.plain.varTypes Tryz.prog).any (Tryz.prog.ifacesRec ·)) = true := by kernel_rfl
theorem k16 : (Rows.modelNumbersRow.mapsOut == Tryz.prog.mapsAmong Tryz.f5.resultTypes.toList) = true := by kernel_rfl
theorem k17 : (Rows.modelNumbersRow.loops == (Tryz.f5.params.toList ++ Rows.modelNumbersSpec.plain.varTypes Tryz.prog).any (Tryz.prog.loopsFrom ·)) = true := by kernel_rfl
theorem k17b : (Rows.modelNumbersRow.wideKeys == (Tryz.f5.params.toList ++ Rows.modelNumbersSpec.plain.varTypes Tryz.prog ++ Tryz.f5.resultTypes.toList).any (Tryz.prog.wideKeysFrom ·)) = true := by kernel_rfl
theorem k18 : Rows.modelNumbersSpec.vars.all (Tryz.prog.varReadable ·) = true := by kernel_rfl
theorem k19 : Tryz.f5.resultTypes.all (fun t => Tryz.prog.readableRec t && decide (t < Tryz.prog.types.size)) = true := by kernel_rfl
theorem k20 : (Rows.modelNumbersRow.ifacesOut == Tryz.f5.resultTypes.toList.any (Tryz.prog.ifacesRec ·)) = true := by kernel_rfl
theorem k21 : (Rows.modelNumbersRow.loopsOut == Tryz.f5.resultTypes.toList.any (Tryz.prog.loopsFrom ·)) = true := by kernel_rfl
theorem k22 : (Rows.modelNumbersRow.plainKeys == Tryz.prog.plainKeys) = true := by kernel_rfl
theorem k23 : Rows.modelNumbersRow.shortTexts.isNone = true := by kernel_rfl
theorem k23b : Tryz.prog.stopsHeard = true := by kernel_rfl
theorem k24 : Tryz.prog.mayEnter = true := by kernel_rfl
theorem k24b : (Rows.modelNumbersRow.lifted == Tryz.prog.liftsFinal) = true := by kernel_rfl
theorem k24c : (Tryz.prog.make == some Rows.modelNumbersRow.make) = true := by kernel_rfl
theorem k25 : (Rows.modelNumbersRow.kinds == (if Rows.modelNumbersRow.domain.isEmpty then [] else Tryz.f5.params.toList.map fun t => match Tryz.prog.underlying t with | some (.int k) => some k | _ => none)) = true := by kernel_rfl
theorem k26 : (Rows.modelNumbersRow.pinned == Rows.modelNumbersRow.pinnedBy) = true := by kernel_rfl
theorem k27 : (Rows.modelNumbersRow.veiled == (Tryz.f5.params.toList ++ Rows.modelNumbersSpec.plain.varTypes Tryz.prog ++ Tryz.f5.resultTypes.toList).any (Tryz.prog.veiledRec ·)) = true := by kernel_rfl
theorem k28 : Rows.modelNumbersRow.veiledFits Tryz.prog Tryz.f5.params.toList (Tryz.f5.params.toList ++ Rows.modelNumbersSpec.plain.varTypes Tryz.prog ++ Tryz.f5.resultTypes.toList) = true := by kernel_rfl
theorem hfn : Tryz.prog.funcNamed Rows.modelNumbersRow.func = some 5 := by kernel_rfl
theorem hinst : Tryz.f5.isInstance Tryz.prog Rows.modelNumbersRow.origin Rows.modelNumbersRow.targs := of_decide_eq_true (by kernel_rfl)
theorem hwrap : Tryz.f5.isWrapper Tryz.prog Rows.modelNumbersRow.wrapper Rows.modelNumbersRow.mainSum := by unfold Func.isWrapper; first | (rw [if_pos (by decide +kernel)]; kernel_rfl) | (rw [if_neg (by decide +kernel)]; exact ⟨rfl, rfl⟩)
theorem band {a b : Bool} (h : a = true) (h' : b = true) : (a && b) = true := by rw [h, h']; rfl
theorem closed : joinedFacts Tryz.prog 5 Tryz.f5 Rows.modelNumbersSpec Rows.modelNumbersRow = true := by
  unfold joinedFacts
  refine band ?_ k28
  refine band ?_ k27
  refine band ?_ k26
  refine band ?_ k25
  refine band ?_ k24c
  refine band ?_ k24b
  refine band ?_ k24
  refine band ?_ k23b
  refine band ?_ k23
  refine band ?_ k22
  refine band ?_ k21
  refine band ?_ k20
  refine band ?_ k19
  refine band ?_ k18
  refine band ?_ k17b
  refine band ?_ k17
  refine band ?_ k16
  refine band ?_ k15
  refine band ?_ k14
  refine band ?_ k13
  refine band ?_ k12
  refine band ?_ k11
  refine band ?_ k10
  refine band ?_ k9
  refine band ?_ k8
  refine band ?_ k7
  refine band ?_ k6
  refine band ?_ k5
  refine band ?_ k4
  refine band ?_ k3
  refine band ?_ k2
  exact k1
theorem said : Rows.ModelNumbersSaid :=
  OpenClaim.holds_of_cond 5 Tryz.f5 rfl rfl rfl rfl rfl rfl rfl ⟨rfl, rfl, rfl, rfl, rfl⟩ rfl rfl rfl rfl rfl hfn Tryz.func5 closed hinst hwrap
    (fun os started H enc _ F => by rw [OpenClaim.pre_eq_preRow]; exact lifted os started H enc F)
theorem plain (f : FuncId) (fn : Func) (hf : Tryz.pinned.checked.prog.funcNamed "deponent/deponentlaw20.ModelNumbers" = some f) (hfn : Tryz.pinned.checked.prog.funcs[f]? = some fn) :
    true = Tryz.pinned.checked.prog.looks [] ∧ ∀ (j : Nat) t, fn.params[j]? = some t → Tryz.pinned.checked.prog.wantsStandIn t = false := by
  obtain rfl : f = 5 := Option.some.inj ((show Tryz.prog.funcNamed "deponent/deponentlaw20.ModelNumbers" = some 5 by kernel_rfl).symm.trans hf) |>.symm
  obtain rfl : fn = Tryz.f5 := (Option.some.inj (Tryz.func5.symm.trans hfn)).symm
  refine ⟨by kernel_rfl, fun j t ht => ?_⟩
  rw [Tryz.params5] at ht
  have hm := Array.mem_of_getElem? ht
  have hall : (#[] : Array TypeId).all (fun t => !Tryz.prog.wantsStandIn t) = true := by kernel_rfl
  have := Array.all_eq_true_iff_forall_mem.1 hall t hm
  exact (by simpa using this : Tryz.prog.wantsStandIn t = false)
theorem proved : Rows.ModelNumbersCardSaid :=
  Claim7.holds_tied_plain_at .later [] _ _ _ _ said (fun _ h => by cases h) (by kernel_rfl) (fun _ h => by cases h) modelNumbers_row_tie rfl ⟨rfl, rfl⟩ (by kernel_rfl) rfl plain (by kernel_rfl)
#print axioms proved
end Go.Proofs.YthomgopipiomhaaGreatDoor.modelNumbers
