/-
  The law ModelFrom: it returns true for every input, and leaves what was there as it was. (The frame is written by program, wip/frame.py, after the kit's skeleton.)
-/
import Derived.Test.YthomgopipiomhaaGreatDoorCards
import Derived.Test.YthomgopipiomhaaGreatDoorTie
import Derived.Deep.DeepHandedRow
import Derived.Test.YthomgopipiomhaaGreatDoorBMF12
namespace Go.Proofs.YthomgopipiomhaaGreatDoor.modelFrom
open Go.ChangeShapes Go.WideShapes Go.ChangeAt Go.RowKit
open Go.ChangeMaps (open_string shut_string)
set_option linter.unusedVariables false
set_option linter.unusedSimpArgs false
theorem own:ownKnob Tryz.prog.godebug=none:=by kernel_rfl
theorem laidOut:laidOutB Tryz.prog=true:=by kernel_rfl
set_option maxRecDepth 100000 in
set_option maxHeartbeats 4000000 in
theorem law_calls {H:Type} {enc:TypeId × Value→H} {base:Nat} (W:World) (hT:Tabs W) (hE:W.cell? ⟨0,0,none⟩=some (.iface 327 (.agg #[.pointer (some ⟨3,81,none⟩)]))) (v0:Value) (d0:DataW H) (p0:List MemPlace) (v1:Value) (d1:DataW H) (p1:List MemPlace) (v2:Value) (d2:DataW H) (p2:List MemPlace)
    (o0:Value.okWide Tryz.prog W .any base 25 v0) (h0:DataW.Trod enc Tryz.prog W 0 (fun _=>true) true 25 v0 d0 p0) (z0:∀n∈d0.weights Tryz.prog 25,n≤reachBytes) (o1:Value.okWide Tryz.prog W .any base 26 v1) (h1:DataW.Trod enc Tryz.prog W 0 (fun _=>true) true 26 v1 d1 p1) (z1:∀n∈d1.weights Tryz.prog 26,n≤reachBytes) (o2:Value.okWide Tryz.prog W .any base 3 v2) (h2:DataW.Trod enc Tryz.prog W 0 (fun _=>true) true 3 v2 d2 p2) (z2:∀n∈d2.weights Tryz.prog 3,n≤reachBytes):
    Calls Tryz.prog 10 #[v0,v1,v2] W fun e w'=>e=.returned (.bool true)∧Below W.heap.size W w':=by
  obtain⟨a2,rfl,-,-,w2⟩:=open_int Tryz.underlying3 o2 h2
  obtain⟨cs0,rfl,-⟩:=okWide_struct Tryz.underlying25 o0
  obtain⟨A1,n1,c1,rfl⟩:=okWide_slice Tryz.underlying26 o1
  obtain⟨f0,hf0⟩:=h0
  obtain⟨f1,hf1⟩:=h1
  obtain⟨c,A,k,hc0,x1,x2,x3,x4,x5,x6,x7⟩:=qo2 hf0 z0
  obtain⟨Al,kl,l,k1,l1,l2,l3,l4⟩:=qo1 hf1 z1
  simp[Value.cells]at k1
  obtain⟨rfl,rfl,rfl⟩:=k1
  have e0:cs0=#[.int .i64 c.width,.int .i64 c.quantum,.int .u32 (c.store:Int),.slice A c.seed.length k]:=by
    rw[show (#[.int .i64 c.width,.int .i64 c.quantum,.int .u32 (c.store:Int),.slice A c.seed.length k]:Array Value)=([.int .i64 c.width,.int .i64 c.quantum,.int .u32 (c.store:Int),.slice A c.seed.length k]:List Value).toArray from rfl,←hc0]
    simp[Value.cells]
  rw[e0]
  have er:reachBytes=140737488351232:=rfl
  rw[er]at x5
  exact xdx W hT hE c.width c.quantum c.store A c.seed.length k c.seed x7 (qeo x1) (qeo x2) x3 x4 (by omega) x6 l _ _ _ l3 rfl l4 _ (qeo w2).1 (qeo w2).2
noncomputable def laidWorld (os:Os):World:=
  {World.holding Tryz.prog os ⟨#[],#[],[]⟩ with heap:=(((World.holding Tryz.prog os ⟨#[],#[],[]⟩).heap.modify 1 (qck qc1.vals)).modify 2 (qck (qbp Kt).toArray)).modify 0 (qck #[.iface 327 (.agg #[.pointer (some ⟨3,81,none⟩)])])}
def wargs:Array Value:=#[.agg #[.int .i64 0,.int .i64 0,.int .u32 0,.slice none 0 0],.slice none 0 0,.int .i64 0]
theorem laid_met (os:Os):laidMetH Tryz.prog Rows.modelFromRow.laid ((laidWorld os).forCall (fun _ _=>0) ⟨#[],wargs,[]⟩).memory:=
  laidMetH_of_parts (laidMet_of_run' 8 (by kernel_rfl) (by kernel_rfl)) (by kernel_rfl)
theorem reads (os:Os) {H:Type} (enc:TypeId × Value→H):∃places,DataW.whole enc Tryz.prog ((laidWorld os).forCall (fun _ _=>0) ⟨#[],wargs,[]⟩).memory Tryz.f10.params.toList Rows.modelFromSpec.vars false wargs.toList 8=some ([.agg [.lit (.int .i64 0),.lit (.int .i64 0),.lit (.int .u32 0),.nil],.nil,.lit (.int .i64 0)],[],places):=
  ⟨[],by kernel_rfl⟩
set_option maxRecDepth 100000 in
theorem lifted (os:Os) (started:os.Started) (H:Type) (enc:TypeId × Value→H) (F:Stop.Interp):
    ReturnsInHanded {} Tryz.checked os 10 .any ((OpenSpec.ofChange Rows.modelFromSpec).preRow enc Tryz.prog Tryz.f10 Rows.modelFromRow.domain false Rows.modelFromRow.laid) (((OpenSpec.ofChange Rows.modelFromSpec).at F).post enc Tryz.prog Tryz.f10 false true false false):=by
  obtain⟨places,hx⟩:=reads os enc
  refine returnsInHanded_of_row (C:=Tryz.checked) (s:=OpenSpec.ofChange Rows.modelFromSpec) own started (by kernel_rfl) Tryz.func10
    (witness_row_at (enc:=enc) (C:=Tryz.checked) false (laidWorld os) wargs rfl (by kernel_rfl) (by kernel_rfl) (by kernel_rfl)
      (OpenSpec.preRow_of_cond 8 hx (by kernel_rfl) (fun k hk=>by cases hk) (by kernel_rfl) (laid_met os))) ?_
  intro W base args ds gs before hval0 hW hcnd _ hsz0 hL _ _
  have hval:∀(j:Nat) t v,Tryz.f10.params[j]? =some t→args[j]? =some v→Value.okWide Tryz.prog W .any base t v:=hval0
  have hW':=hW
  obtain⟨p,q,hA0,hV,rfl,hfz,hnd⟩:=hW
  have hA:DataW.TrodAll enc Tryz.prog W 0 (fun _=>true) true Tryz.f10.params.toList args.toList ds p:=hA0
  rw[Tryz.params10]at hA hval
  obtain⟨v0,vs0,d0,ds0,p0,q0,hargs,rfl,rfl,h0,r0⟩:=trodAll_cons hA
  obtain⟨v1,vs1,d1,ds1,p1,q1,rfl,rfl,rfl,h1,r1⟩:=trodAll_cons r0
  obtain⟨v2,vs2,d2,ds2,p2,q2,rfl,rfl,rfl,h2,r2⟩:=trodAll_cons r1
  obtain⟨rfl,rfl,rfl⟩:=trodAll_nil r2
  obtain rfl:args=#[v0,v1,v2]:=by cases args;simp_all
  obtain⟨rfl,rfl⟩:=trodVars_none hV
  have lt0:∀x∈p0,x.block<W.heap.size:=by obtain⟨m,hm⟩:=h0;exact DataW.trod_lt m _ _ _ hm
  have lt1:∀x∈p1,x.block<W.heap.size:=by obtain⟨m,hm⟩:=h1;exact DataW.trod_lt m _ _ _ hm
  have lt2:∀x∈p2,x.block<W.heap.size:=by obtain⟨m,hm⟩:=h2;exact DataW.trod_lt m _ _ _ hm
  have hz0:∀n∈d0.weights Tryz.prog 25,n≤reachBytes:=fun n hn=>by
    have:=List.all_eq_true.1 hsz0 n (DataW.weights_mem_each (j:=0) (t:=25) (d:=d0) rfl rfl n hn)
    simpa using this
  have hz1:∀n∈d1.weights Tryz.prog 26,n≤reachBytes:=fun n hn=>by
    have:=List.all_eq_true.1 hsz0 n (DataW.weights_mem_each (j:=1) (t:=26) (d:=d1) rfl rfl n hn)
    simpa using this
  have hz2:∀n∈d2.weights Tryz.prog 3,n≤reachBytes:=fun n hn=>by
    have:=List.all_eq_true.1 hsz0 n (DataW.weights_mem_each (j:=2) (t:=3) (d:=d2) rfl rfl n hn)
    simpa using this
  clear hA0 hval0
  refine(law_calls (enc:=enc) (base:=base) W (qcy hL).1 (qcy hL).2 v0 d0 p0 v1 d1 p1 v2 d2 p2 (hval 0 25 v0 rfl rfl) h0 hz0 (hval 1 26 v1 rfl rfl) h1 hz1 (hval 2 3 v2 rfl rfl) h2 hz2).mono fun e W' ⟨he,bel⟩=>?_
  subst he
  have hp:Rows.modelFromSpec.post enc Tryz.prog Tryz.f10 false true false false W _ (.bool true) W':=
    ⟨_,_,_,[],_,[],hW',trodAll_mk1 (shut_bool Tryz.underlying4 _),(trodAll_cons_mk (Below.trod laidOut (by kernel_rfl) (of_decide_eq_true (by kernel_rfl)) h0 bel lt0) (trodAll_cons_mk (Below.trod laidOut (by kernel_rfl) (of_decide_eq_true (by kernel_rfl)) h1 bel lt1) (trodAll_cons_mk (Below.trod laidOut (by kernel_rfl) (of_decide_eq_true (by kernel_rfl)) h2 bel lt2) trodAll_mk0))),rfl,bel.frame _,fun h=>by cases h⟩
  exact⟨_,rfl,hp⟩
set_option maxRecDepth 1000000
theorem k1:Rows.modelFromRow.wf (OpenSpec.ofChange Rows.modelFromSpec)=true:=by kernel_rfl
theorem k2:laidOutB Tryz.prog=true:=by kernel_rfl
theorem k3:mapsRowed Tryz.prog=true:=by kernel_rfl
theorem k4:Tryz.f10.params.all (Tryz.prog.readableRec ·)=true:=by kernel_rfl
theorem k5:namedTie Tryz.prog Rows.modelFromRow.named Rows.modelFromSpec.vars=true:=by kernel_rfl
theorem k6:(Rows.modelFromRow.stops==[])=true:=by kernel_rfl
theorem k7:(Tryz.prog.stops==[])=true:=by kernel_rfl
theorem k8:(Rows.modelFromRow.knobs==[])=true:=by kernel_rfl
theorem k9:(Tryz.prog.stopKnobs==[])=true:=by kernel_rfl
theorem k10:(Rows.modelFromRow.inPlace==Tryz.prog.inPlace 10)=true:=by kernel_rfl
theorem k11:(Rows.modelFromRow.unfollowed==Tryz.prog.unfollowed 10)=true:=by kernel_rfl
theorem k12:(Rows.modelFromRow.recurses==Tryz.prog.recurses 10)=true:=by kernel_rfl
theorem k13:(Rows.modelFromRow.named==Tryz.prog.varsNamed 10)=true:=by kernel_rfl
theorem k14:(Rows.modelFromRow.maps==(Tryz.f10.params.toList++Rows.modelFromSpec.plain.varTypes Tryz.prog).any (Tryz.prog.mapsRec ·))=true:=by kernel_rfl
theorem k15:(Rows.modelFromRow.ifaces==(Tryz.f10.params.toList++Rows.modelFromSpec.plain.varTypes Tryz.prog).any (Tryz.prog.ifacesRec ·))=true:=by kernel_rfl
theorem k16:(Rows.modelFromRow.mapsOut==Tryz.prog.mapsAmong Tryz.f10.resultTypes.toList)=true:=by kernel_rfl
theorem k17:(Rows.modelFromRow.loops==(Tryz.f10.params.toList++Rows.modelFromSpec.plain.varTypes Tryz.prog).any (Tryz.prog.loopsFrom ·))=true:=by kernel_rfl
theorem k17b:(Rows.modelFromRow.wideKeys==(Tryz.f10.params.toList++Rows.modelFromSpec.plain.varTypes Tryz.prog++Tryz.f10.resultTypes.toList).any (Tryz.prog.wideKeysFrom ·))=true:=by kernel_rfl
theorem k18:Rows.modelFromSpec.vars.all (Tryz.prog.varReadable ·)=true:=by kernel_rfl
theorem k19:Tryz.f10.resultTypes.all (fun t=>Tryz.prog.readableRec t&&decide (t<Tryz.prog.types.size))=true:=by kernel_rfl
theorem k20:(Rows.modelFromRow.ifacesOut==Tryz.f10.resultTypes.toList.any (Tryz.prog.ifacesRec ·))=true:=by kernel_rfl
theorem k21:(Rows.modelFromRow.loopsOut==Tryz.f10.resultTypes.toList.any (Tryz.prog.loopsFrom ·))=true:=by kernel_rfl
theorem k22:(Rows.modelFromRow.plainKeys==Tryz.prog.plainKeys)=true:=by kernel_rfl
theorem k23:Rows.modelFromRow.shortTexts.isNone=true:=by kernel_rfl
theorem k23b:Tryz.prog.stopsHeard=true:=by kernel_rfl
theorem k24:Tryz.prog.mayEnter=true:=by kernel_rfl
theorem k24b:(Rows.modelFromRow.lifted==Tryz.prog.liftsFinal)=true:=by kernel_rfl
theorem k24c:(Tryz.prog.make==some Rows.modelFromRow.make)=true:=by kernel_rfl
theorem k25:(Rows.modelFromRow.kinds==(if Rows.modelFromRow.domain.isEmpty then [] else Tryz.f10.params.toList.map fun t=>match Tryz.prog.underlying t with|some (.int k)=>some k|_=>none))=true:=by kernel_rfl
theorem k26:(Rows.modelFromRow.pinned==Rows.modelFromRow.pinnedBy)=true:=by kernel_rfl
theorem k27:(Rows.modelFromRow.veiled==(Tryz.f10.params.toList++Rows.modelFromSpec.plain.varTypes Tryz.prog++Tryz.f10.resultTypes.toList).any (Tryz.prog.veiledRec ·))=true:=by kernel_rfl
theorem k28:Rows.modelFromRow.veiledFits Tryz.prog Tryz.f10.params.toList (Tryz.f10.params.toList++Rows.modelFromSpec.plain.varTypes Tryz.prog++Tryz.f10.resultTypes.toList)=true:=by kernel_rfl
theorem hfn:Tryz.prog.funcNamed Rows.modelFromRow.func=some 10:=by kernel_rfl
theorem hinst:Tryz.f10.isInstance Tryz.prog Rows.modelFromRow.origin Rows.modelFromRow.targs:=of_decide_eq_true (by kernel_rfl)
theorem hwrap:Tryz.f10.isWrapper Tryz.prog Rows.modelFromRow.wrapper Rows.modelFromRow.mainSum:=by unfold Func.isWrapper;first|(rw[if_pos (by decide+kernel)];kernel_rfl)|(rw[if_neg (by decide+kernel)];exact⟨rfl,rfl⟩)
theorem band {a b:Bool} (h:a=true) (h':b=true):(a&&b)=true:=by rw[h,h'];rfl
theorem closed:joinedFacts Tryz.prog 10 Tryz.f10 Rows.modelFromSpec Rows.modelFromRow=true:=by
  unfold joinedFacts
  refine band ?_ k28
  refine band ?_ k27
  refine band ?_ k26
  refine band ?_ k25
  refine band ?_ k24c
  refine band ?_ k24b
  refine band ?_ k24
  refine band ?_ k23b
  refine band ?_ k23
  refine band ?_ k22
  refine band ?_ k21
  refine band ?_ k20
  refine band ?_ k19
  refine band ?_ k18
  refine band ?_ k17b
  refine band ?_ k17
  refine band ?_ k16
  refine band ?_ k15
  refine band ?_ k14
  refine band ?_ k13
  refine band ?_ k12
  refine band ?_ k11
  refine band ?_ k10
  refine band ?_ k9
  refine band ?_ k8
  refine band ?_ k7
  refine band ?_ k6
  refine band ?_ k5
  refine band ?_ k4
  refine band ?_ k3
  refine band ?_ k2
  exact k1
theorem said:Rows.ModelFromSaid:=
  OpenClaim.holds_of_cond 10 Tryz.f10 rfl rfl rfl rfl rfl rfl rfl ⟨rfl,rfl,rfl,rfl,rfl⟩ rfl rfl rfl rfl rfl hfn Tryz.func10 closed hinst hwrap
    (fun os started H enc _ F=>by rw[OpenClaim.pre_eq_preRow];exact lifted os started H enc F)
theorem plain (f : FuncId) (fn : Func) (hf : Tryz.pinned.checked.prog.funcNamed "deponent/deponentlaw20.ModelFrom" = some f) (hfn : Tryz.pinned.checked.prog.funcs[f]? = some fn) :
    true=Tryz.pinned.checked.prog.looks []∧∀(j:Nat) t,fn.params[j]? =some t→Tryz.pinned.checked.prog.wantsStandIn t=false:=by
  obtain rfl : f = 10 := Option.some.inj ((show Tryz.prog.funcNamed "deponent/deponentlaw20.ModelFrom" = some 10 by kernel_rfl).symm.trans hf) |>.symm
  obtain rfl:fn=Tryz.f10:=(Option.some.inj (Tryz.func10.symm.trans hfn)).symm
  refine⟨by kernel_rfl,fun j t ht=>?_⟩
  rw[Tryz.params10]at ht
  have hm:=Array.mem_of_getElem? ht
  have hall:(#[25,26,3]:Array TypeId).all (fun t=>!Tryz.prog.wantsStandIn t)=true:=by kernel_rfl
  have:=Array.all_eq_true_iff_forall_mem.1 hall t hm
  exact(by simpa using this:Tryz.prog.wantsStandIn t=false)
theorem proved:Rows.ModelFromCardSaid:=
  Claim7.holds_tied_plain_at .later [] _ _ _ _ said (fun _ h=>by cases h) (by kernel_rfl) (fun _ h=>by cases h) modelFrom_row_tie rfl ⟨rfl,rfl⟩ (by kernel_rfl) rfl plain (by kernel_rfl)
#print axioms proved
end Go.Proofs.YthomgopipiomhaaGreatDoor.modelFrom
