/-
  The law ModelRefused: it returns true for every input, and leaves what was there as it was. (The frame is written by program, wip/frame.py, after the kit's skeleton.)
-/
import Derived.Test.YthomgopipiomhaaGreatDoorCards
import Derived.Test.YthomgopipiomhaaGreatDoorTie
import Derived.Deep.DeepHandedRow
import Derived.Test.YthomgopipiomhaaGreatDoorBMR10
namespace Go.Proofs.YthomgopipiomhaaGreatDoor.modelRefused
open Go.ChangeShapes Go.WideShapes Go.ChangeAt Go.RowKit
open Go.ChangeMaps (open_string shut_string)
set_option linter.unusedVariables false
set_option linter.unusedSimpArgs false
theorem own:ownKnob Tryz.prog.godebug=none:=by kernel_rfl
theorem laidOut:laidOutB Tryz.prog=true:=by kernel_rfl
set_option maxRecDepth 100000 in
set_option maxHeartbeats 4000000 in
theorem law_calls {H:Type} {enc:TypeId × Value→H} {base:Nat} (W:World) (hT:Tabs W) (hE:W.cell? ⟨0,0,none⟩=some (.iface 327 (.agg #[.pointer (some ⟨3,81,none⟩)]))) (v0:Value) (d0:DataW H) (p0:List MemPlace) (v1:Value) (d1:DataW H) (p1:List MemPlace)
    (o0:Value.okWide Tryz.prog W .any base 25 v0) (h0:DataW.Trod enc Tryz.prog W 0 (fun _=>true) true 25 v0 d0 p0) (z0:∀n∈d0.weights Tryz.prog 25,n≤reachBytes) (o1:Value.okWide Tryz.prog W .any base 26 v1) (h1:DataW.Trod enc Tryz.prog W 0 (fun _=>true) true 26 v1 d1 p1) (z1:∀n∈d1.weights Tryz.prog 26,n≤reachBytes):
    Calls Tryz.prog 11 #[v0,v1] W fun e w'=>e=.returned (.bool true)∧Below W.heap.size W w':=by
  obtain⟨cs0,rfl,-⟩:=okWide_struct Tryz.underlying25 o0
  obtain⟨A1,n1,c1,rfl⟩:=okWide_slice Tryz.underlying26 o1
  obtain⟨f0,hf0⟩:=h0
  obtain⟨f1,hf1⟩:=h1
  obtain⟨c,A,k,hc0,x1,x2,x3,x4,x5,x6,x7⟩:=qoi hf0 z0
  obtain⟨Al,kl,l,k1,l1,l2,l3,l4⟩:=qoh hf1 z1
  simp[Value.cells]at k1
  obtain⟨rfl,rfl,rfl⟩:=k1
  have e0:cs0=#[.int .i64 c.width,.int .i64 c.quantum,.int .u32 (c.store:Int),.slice A c.seed.length k]:=by
    rw[show (#[.int .i64 c.width,.int .i64 c.quantum,.int .u32 (c.store:Int),.slice A c.seed.length k]:Array Value)=([.int .i64 c.width,.int .i64 c.quantum,.int .u32 (c.store:Int),.slice A c.seed.length k]:List Value).toArray from rfl,←hc0]
    simp[Value.cells]
  rw[e0]
  have er:reachBytes=140737488351232:=rfl
  rw[er]at x5
  exact xfe W hT hE c.width c.quantum c.store A c.seed.length k c.seed x7 (qep x1) (qep x2) x3 x4 (by omega) x6 l _ _ _ l3 rfl l4
noncomputable def laidWorld (os:Os):World:=
  {World.holding Tryz.prog os ⟨#[],#[],[]⟩ with heap:=(((World.holding Tryz.prog os ⟨#[],#[],[]⟩).heap.modify 1 (qcl qc2.vals)).modify 2 (qcl (qbq Kt).toArray)).modify 0 (qcl #[.iface 327 (.agg #[.pointer (some ⟨3,81,none⟩)])])}
def wargs:Array Value:=#[.agg #[.int .i64 0,.int .i64 0,.int .u32 0,.slice none 0 0],.slice none 0 0]
theorem laid_met (os:Os):laidMetH Tryz.prog Rows.modelRefusedRow.laid ((laidWorld os).forCall (fun _ _=>0) ⟨#[],wargs,[]⟩).memory:=
  laidMetH_of_parts (laidMet_of_run' 8 (by kernel_rfl) (by kernel_rfl)) (by kernel_rfl)
theorem reads (os:Os) {H:Type} (enc:TypeId × Value→H):∃places,DataW.whole enc Tryz.prog ((laidWorld os).forCall (fun _ _=>0) ⟨#[],wargs,[]⟩).memory Tryz.f11.params.toList Rows.modelRefusedSpec.vars false wargs.toList 8=some ([.agg [.lit (.int .i64 0),.lit (.int .i64 0),.lit (.int .u32 0),.nil],.nil],[],places):=
  ⟨[],by kernel_rfl⟩
set_option maxRecDepth 100000 in
theorem lifted (os:Os) (started:os.Started) (H:Type) (enc:TypeId × Value→H) (F:Stop.Interp):
    ReturnsInHanded {} Tryz.checked os 11 .any ((OpenSpec.ofChange Rows.modelRefusedSpec).preRow enc Tryz.prog Tryz.f11 Rows.modelRefusedRow.domain false Rows.modelRefusedRow.laid) (((OpenSpec.ofChange Rows.modelRefusedSpec).at F).post enc Tryz.prog Tryz.f11 false true false false):=by
  obtain⟨places,hx⟩:=reads os enc
  refine returnsInHanded_of_row (C:=Tryz.checked) (s:=OpenSpec.ofChange Rows.modelRefusedSpec) own started (by kernel_rfl) Tryz.func11
    (witness_row_at (enc:=enc) (C:=Tryz.checked) false (laidWorld os) wargs rfl (by kernel_rfl) (by kernel_rfl) (by kernel_rfl)
      (OpenSpec.preRow_of_cond 8 hx (by kernel_rfl) (fun k hk=>by cases hk) (by kernel_rfl) (laid_met os))) ?_
  intro W base args ds gs before hval0 hW hcnd _ hsz0 hL _ _
  have hval:∀(j:Nat) t v,Tryz.f11.params[j]? =some t→args[j]? =some v→Value.okWide Tryz.prog W .any base t v:=hval0
  have hW':=hW
  obtain⟨p,q,hA0,hV,rfl,hfz,hnd⟩:=hW
  have hA:DataW.TrodAll enc Tryz.prog W 0 (fun _=>true) true Tryz.f11.params.toList args.toList ds p:=hA0
  rw[Tryz.params11]at hA hval
  obtain⟨v0,vs0,d0,ds0,p0,q0,hargs,rfl,rfl,h0,r0⟩:=trodAll_cons hA
  obtain⟨v1,vs1,d1,ds1,p1,q1,rfl,rfl,rfl,h1,r1⟩:=trodAll_cons r0
  obtain⟨rfl,rfl,rfl⟩:=trodAll_nil r1
  obtain rfl:args=#[v0,v1]:=by cases args;simp_all
  obtain⟨rfl,rfl⟩:=trodVars_none hV
  have lt0:∀x∈p0,x.block<W.heap.size:=by obtain⟨m,hm⟩:=h0;exact DataW.trod_lt m _ _ _ hm
  have lt1:∀x∈p1,x.block<W.heap.size:=by obtain⟨m,hm⟩:=h1;exact DataW.trod_lt m _ _ _ hm
  have hz0:∀n∈d0.weights Tryz.prog 25,n≤reachBytes:=fun n hn=>by
    have:=List.all_eq_true.1 hsz0 n (DataW.weights_mem_each (j:=0) (t:=25) (d:=d0) rfl rfl n hn)
    simpa using this
  have hz1:∀n∈d1.weights Tryz.prog 26,n≤reachBytes:=fun n hn=>by
    have:=List.all_eq_true.1 hsz0 n (DataW.weights_mem_each (j:=1) (t:=26) (d:=d1) rfl rfl n hn)
    simpa using this
  clear hA0 hval0
  refine(law_calls (enc:=enc) (base:=base) W (qcz hL).1 (qcz hL).2 v0 d0 p0 v1 d1 p1 (hval 0 25 v0 rfl rfl) h0 hz0 (hval 1 26 v1 rfl rfl) h1 hz1).mono fun e W' ⟨he,bel⟩=>?_
  subst he
  have hp:Rows.modelRefusedSpec.post enc Tryz.prog Tryz.f11 false true false false W _ (.bool true) W':=
    ⟨_,_,_,[],_,[],hW',trodAll_mk1 (shut_bool Tryz.underlying4 _),(trodAll_cons_mk (Below.trod laidOut (by kernel_rfl) (of_decide_eq_true (by kernel_rfl)) h0 bel lt0) (trodAll_cons_mk (Below.trod laidOut (by kernel_rfl) (of_decide_eq_true (by kernel_rfl)) h1 bel lt1) trodAll_mk0)),rfl,bel.frame _,fun h=>by cases h⟩
  exact⟨_,rfl,hp⟩
set_option maxRecDepth 1000000
theorem k1:Rows.modelRefusedRow.wf (OpenSpec.ofChange Rows.modelRefusedSpec)=true:=by kernel_rfl
theorem k2:laidOutB Tryz.prog=true:=by kernel_rfl
theorem k3:mapsRowed Tryz.prog=true:=by kernel_rfl
theorem k4:Tryz.f11.params.all (Tryz.prog.readableRec ·)=true:=by kernel_rfl
theorem k5:namedTie Tryz.prog Rows.modelRefusedRow.named Rows.modelRefusedSpec.vars=true:=by kernel_rfl
theorem k6:(Rows.modelRefusedRow.stops==[])=true:=by kernel_rfl
theorem k7:(Tryz.prog.stops==[])=true:=by kernel_rfl
theorem k8:(Rows.modelRefusedRow.knobs==[])=true:=by kernel_rfl
theorem k9:(Tryz.prog.stopKnobs==[])=true:=by kernel_rfl
theorem k10:(Rows.modelRefusedRow.inPlace==Tryz.prog.inPlace 11)=true:=by kernel_rfl
theorem k11:(Rows.modelRefusedRow.unfollowed==Tryz.prog.unfollowed 11)=true:=by kernel_rfl
theorem k12:(Rows.modelRefusedRow.recurses==Tryz.prog.recurses 11)=true:=by kernel_rfl
theorem k13:(Rows.modelRefusedRow.named==Tryz.prog.varsNamed 11)=true:=by kernel_rfl
theorem k14:(Rows.modelRefusedRow.maps==(Tryz.f11.params.toList++Rows.modelRefusedSpec.plain.varTypes Tryz.prog).any (Tryz.prog.mapsRec ·))=true:=by kernel_rfl
theorem k15:(Rows.modelRefusedRow.ifaces==(Tryz.f11.params.toList++Rows.modelRefusedSpec.plain.varTypes Tryz.prog).any (Tryz.prog.ifacesRec ·))=true:=by kernel_rfl
theorem k16:(Rows.modelRefusedRow.mapsOut==Tryz.prog.mapsAmong Tryz.f11.resultTypes.toList)=true:=by kernel_rfl
theorem k17:(Rows.modelRefusedRow.loops==(Tryz.f11.params.toList++Rows.modelRefusedSpec.plain.varTypes Tryz.prog).any (Tryz.prog.loopsFrom ·))=true:=by kernel_rfl
theorem k17b:(Rows.modelRefusedRow.wideKeys==(Tryz.f11.params.toList++Rows.modelRefusedSpec.plain.varTypes Tryz.prog++Tryz.f11.resultTypes.toList).any (Tryz.prog.wideKeysFrom ·))=true:=by kernel_rfl
theorem k18:Rows.modelRefusedSpec.vars.all (Tryz.prog.varReadable ·)=true:=by kernel_rfl
theorem k19:Tryz.f11.resultTypes.all (fun t=>Tryz.prog.readableRec t&&decide (t<Tryz.prog.types.size))=true:=by kernel_rfl
theorem k20:(Rows.modelRefusedRow.ifacesOut==Tryz.f11.resultTypes.toList.any (Tryz.prog.ifacesRec ·))=true:=by kernel_rfl
theorem k21:(Rows.modelRefusedRow.loopsOut==Tryz.f11.resultTypes.toList.any (Tryz.prog.loopsFrom ·))=true:=by kernel_rfl
theorem k22:(Rows.modelRefusedRow.plainKeys==Tryz.prog.plainKeys)=true:=by kernel_rfl
theorem k23:Rows.modelRefusedRow.shortTexts.isNone=true:=by kernel_rfl
theorem k23b:Tryz.prog.stopsHeard=true:=by kernel_rfl
theorem k24:Tryz.prog.mayEnter=true:=by kernel_rfl
theorem k24b:(Rows.modelRefusedRow.lifted==Tryz.prog.liftsFinal)=true:=by kernel_rfl
theorem k24c:(Tryz.prog.make==some Rows.modelRefusedRow.make)=true:=by kernel_rfl
theorem k25:(Rows.modelRefusedRow.kinds==(if Rows.modelRefusedRow.domain.isEmpty then [] else Tryz.f11.params.toList.map fun t=>match Tryz.prog.underlying t with|some (.int k)=>some k|_=>none))=true:=by kernel_rfl
theorem k26:(Rows.modelRefusedRow.pinned==Rows.modelRefusedRow.pinnedBy)=true:=by kernel_rfl
theorem k27:(Rows.modelRefusedRow.veiled==(Tryz.f11.params.toList++Rows.modelRefusedSpec.plain.varTypes Tryz.prog++Tryz.f11.resultTypes.toList).any (Tryz.prog.veiledRec ·))=true:=by kernel_rfl
theorem k28:Rows.modelRefusedRow.veiledFits Tryz.prog Tryz.f11.params.toList (Tryz.f11.params.toList++Rows.modelRefusedSpec.plain.varTypes Tryz.prog++Tryz.f11.resultTypes.toList)=true:=by kernel_rfl
theorem hfn:Tryz.prog.funcNamed Rows.modelRefusedRow.func=some 11:=by kernel_rfl
theorem hinst:Tryz.f11.isInstance Tryz.prog Rows.modelRefusedRow.origin Rows.modelRefusedRow.targs:=of_decide_eq_true (by kernel_rfl)
theorem hwrap:Tryz.f11.isWrapper Tryz.prog Rows.modelRefusedRow.wrapper Rows.modelRefusedRow.mainSum:=by unfold Func.isWrapper;first|(rw[if_pos (by decide+kernel)];kernel_rfl)|(rw[if_neg (by decide+kernel)];exact⟨rfl,rfl⟩)
theorem band {a b:Bool} (h:a=true) (h':b=true):(a&&b)=true:=by rw[h,h'];rfl
theorem closed:joinedFacts Tryz.prog 11 Tryz.f11 Rows.modelRefusedSpec Rows.modelRefusedRow=true:=by
  unfold joinedFacts
  refine band ?_ k28
  refine band ?_ k27
  refine band ?_ k26
  refine band ?_ k25
  refine band ?_ k24c
  refine band ?_ k24b
  refine band ?_ k24
  refine band ?_ k23b
  refine band ?_ k23
  refine band ?_ k22
  refine band ?_ k21
  refine band ?_ k20
  refine band ?_ k19
  refine band ?_ k18
  refine band ?_ k17b
  refine band ?_ k17
  refine band ?_ k16
  refine band ?_ k15
  refine band ?_ k14
  refine band ?_ k13
  refine band ?_ k12
  refine band ?_ k11
  refine band ?_ k10
  refine band ?_ k9
  refine band ?_ k8
  refine band ?_ k7
  refine band ?_ k6
  refine band ?_ k5
  refine band ?_ k4
  refine band ?_ k3
  refine band ?_ k2
  exact k1
theorem said:Rows.ModelRefusedSaid:=
  OpenClaim.holds_of_cond 11 Tryz.f11 rfl rfl rfl rfl rfl rfl rfl ⟨rfl,rfl,rfl,rfl,rfl⟩ rfl rfl rfl rfl rfl hfn Tryz.func11 closed hinst hwrap
    (fun os started H enc _ F=>by rw[OpenClaim.pre_eq_preRow];exact lifted os started H enc F)
theorem plain (f : FuncId) (fn : Func) (hf : Tryz.pinned.checked.prog.funcNamed "deponent/deponentlaw20.ModelRefused" = some f) (hfn : Tryz.pinned.checked.prog.funcs[f]? = some fn) :
    true=Tryz.pinned.checked.prog.looks []∧∀(j:Nat) t,fn.params[j]? =some t→Tryz.pinned.checked.prog.wantsStandIn t=false:=by
  obtain rfl : f = 11 := Option.some.inj ((show Tryz.prog.funcNamed "deponent/deponentlaw20.ModelRefused" = some 11 by kernel_rfl).symm.trans hf) |>.symm
  obtain rfl:fn=Tryz.f11:=(Option.some.inj (Tryz.func11.symm.trans hfn)).symm
  refine⟨by kernel_rfl,fun j t ht=>?_⟩
  rw[Tryz.params11]at ht
  have hm:=Array.mem_of_getElem? ht
  have hall:(#[25,26]:Array TypeId).all (fun t=>!Tryz.prog.wantsStandIn t)=true:=by kernel_rfl
  have:=Array.all_eq_true_iff_forall_mem.1 hall t hm
  exact(by simpa using this:Tryz.prog.wantsStandIn t=false)
theorem proved:Rows.ModelRefusedCardSaid:=
  Claim7.holds_tied_plain_at .later [] _ _ _ _ said (fun _ h=>by cases h) (by kernel_rfl) (fun _ h=>by cases h) modelRefused_row_tie rfl ⟨rfl,rfl⟩ (by kernel_rfl) rfl plain (by kernel_rfl)
#print axioms proved
end Go.Proofs.YthomgopipiomhaaGreatDoor.modelRefused
