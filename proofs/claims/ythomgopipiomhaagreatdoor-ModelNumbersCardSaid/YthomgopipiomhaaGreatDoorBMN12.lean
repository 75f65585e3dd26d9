/-
  Lemmas for ModelNumbers, shortened by program.
-/
import Derived.Test.YthomgopipiomhaaGreatDoorBMN09
namespace Go.Proofs.YthomgopipiomhaaGreatDoor
set_option linter.unusedVariables false
set_option linter.unusedSimpArgs false
set_option maxRecDepth 100000
set_option maxHeartbeats 32000000
section
open Go
section
variable {P : Program} {ops : Array Oper} {Q : Exit → Act → World → Prop} {md : Region.Mode} {S : World → Prop} {p : Nat → Bool}
def qzl (P:Program)(md:Region.Mode)(ops:Array Oper)(Q:Exit→Act→World→Prop)(S:World→Prop)(p:Nat→Bool):Nat→Array Bool→Act→World→Prop
 |0,listed,a,w=>Region.ready md ops listed=[]∧Q .normal a w
 |fuel+1,listed,a,w=>
  (Region.ready md ops listed=[]→Q .normal a w)∧
  ∀i∈Region.ready md ops listed,wpOp P ops Q i (fun a' w'=>(p i=true→S w→S w')∧qzl P md ops Q S p fuel (listed.setIfInBounds i true) a' w') a w
theorem qzm:∀(fuel:Nat) (listed:Array Bool) (a:Act) (w:World),qzl P md ops Q S p fuel listed a w→wpAny P md ops Q fuel listed a w
 |0,_,_,_,h=>h
 |fuel+1,_,_,_,h=>⟨h.1,fun i hi=>wpOp_mono (fun a' w' h'=>qzm fuel _ a' w' h'.2) (h.2 i hi)⟩
theorem qzn {i:Nat}{oi:Oper}{v:Value}(T:World→Prop)(hi:ops[i]? =some oi)(hsel:∀(j:Nat) (o:Oper) cs b,ops[j]? =some o→o.op≠.select cs b)
 (hQ:∀c a w,Q (.panic c) (a.put oi.dst v) w→Q (.panic c) a w)
 (hT:(∀w,T w)∨((∀w,S w→T w)∧∀j oj,ops[j]? =some oj→j≠i→p j=false→∃e∈oj.after,Region.binds md e=true∧e.on=i)):
 ∀(fuel:Nat) (listed:Array Bool) (a:Act) (w:World),
  (∀j oj,ops[j]? =some oj→j≠i→listed.getD j true=false→(∀e∈oj.after,Region.binds md e=true→e.on≠i)→oi.apart ops oj=true)→
  i∈Region.ready md ops listed→YieldsIf P ops T oi v a→((∀w,T w)∨S w)→
  qzl P md ops Q S p fuel (listed.setIfInBounds i true) (a.put oi.dst v) w→qzl P md ops Q S p (fuel+1) listed a w:=by
 intro fuel;induction fuel with
 |zero=>
  intro listed a w _ hr hy hS H;have hTw:T w:=by
   rcases hS with h|h
   · exact h w
   rcases hT with h'|h'
   · exact h' w
   exact h'.1 w h
  refine⟨fun h=>(by rw[h]at hr;cases hr),fun j hj=>?_⟩;by_cases hji:j=i
  · subst hji;exact hy.wpOp hi hTw ⟨fun _ h=>h,H⟩
  have:=ready_mono hj hji;rw[H.1]at this;cases this
 |succ fuel ih=>
  intro listed a w hfree hr hy hS H;have hTw:T w:=by
   rcases hS with h|h
   · exact h w
   rcases hT with h'|h'
   · exact h' w
   exact h'.1 w h
  refine⟨fun h=>(by rw[h]at hr;cases hr),fun j hj=>?_⟩;by_cases hji:j=i
  · subst hji;exact hy.wpOp hi hTw ⟨fun _ h=>h,H⟩
  have h1:=H.2 j (ready_mono hj hji);obtain⟨hjun,oj,hoj,hall⟩:=mem_ready.1 hj;have hnot:∀e∈oj.after,Region.binds md e=true→e.on≠i:=fun e he hb heq=>by
   have h1:=hall e he hb;have h0:=(mem_ready.1 hr).1;rw[heq]at h1;rcases Nat.lt_or_ge i listed.size with h'|h'
   · simp[h']at h0 h1;rw[h0]at h1;cases h1
   simp[Array.getElem?_eq_none h']at h1
  have h2:=wpOp_putIf hoj (hfree j oj hoj hji hjun hnot) (fun cs b=>hsel i oi cs b hi) (fun cs b=>hsel j oj cs b hoj) hQ hy h1;have hfree':∀k ok,ops[k]? =some ok→k≠i→(listed.setIfInBounds j true).getD k true=false→
   (∀e∈ok.after,Region.binds md e=true→e.on≠i)→oi.apart ops ok=true:=fun k ok hk hki hun hno=>by
   refine hfree k ok hk hki ?_ hno;by_cases hjk:j=k
   · subst hjk;exact hjun
   rw[getD_set_ne true hjk]at hun;exact hun
  refine wpOp_mono (fun a' w' h3=>⟨h3.2.1,ih (listed.setIfInBounds j true) a' w' hfree' (ready_mono hr (Ne.symm hji)) h3.1 ?_ ?_⟩) h2
  ·
   rcases hS with h|h
   · exact .inl h
   rcases hT with h'|h'
   · exact .inl h'
   right;refine h3.2.1 ?_ h;cases hp:p j with
   |true=>rfl
   |false=>
    obtain⟨e,he,hb,heq⟩:=h'.2 j oj hoj hji hp;exact absurd heq (hnot e he hb)
  rw[Array.setIfInBounds_comm _ _ hji];exact h3.2.2
def qzo (md:Region.Mode)(ops:Array Oper)(p:Nat→Bool)(i:Nat):Bool:=
 (List.range ops.size).all fun j=>p j||j==i||(match ops[j]? with|none=>true|some o=>o.after.any fun e=>Region.binds md e&&e.on==i)
def qzp (md:Region.Mode)(ops:Array Oper)(p:Nat→Bool):Bool→List (Nat × Option Bool)→Array Bool→Bool
 |_,[],listed=>(Region.ready md ops listed).isEmpty
 |b,(i,none)::r,listed=>(Region.ready md ops listed).contains i&&Region.free md ops listed i&&qzp md ops p b r (listed.setIfInBounds i true)
 |b,(i,some false)::r,listed=>b&&qzo md ops p i&&(Region.ready md ops listed).contains i&&Region.free md ops listed i&&qzp md ops p b r (listed.setIfInBounds i true)
 |b,(i,some true)::r,listed=>(Region.ready md ops listed==[i])&&qzp md ops p (b&&p i) r (listed.setIfInBounds i true)
def qzq (P:Program)(ops:Array Oper)(Q:Exit→Act→World→Prop)(S:World→Prop)(p:Nat→Bool):List (Nat × Option Bool)→Act→World→Prop
 |[],a,w=>Q .normal a w
 |(i,none)::r,a,w=>∃o v,ops[i]? =some o∧YieldsIf P ops (fun _=>True) o v a∧qzq P ops Q S p r (a.put o.dst v) w
 |(i,some false)::r,a,w=>∃o v,ops[i]? =some o∧YieldsIf P ops S o v a∧qzq P ops Q S p r (a.put o.dst v) w
 |(i,some true)::r,a,w=>wpOp P ops Q i (fun a' w'=>(p i=true→S w')∧qzq P ops Q S p r a' w') a w
theorem qzr (hsel:Region.noSelect ops=true)(hQ:∀c a d v w,Q (.panic c) (a.put d v) w→Q (.panic c) a w):
 ∀(r:List (Nat × Option Bool)) (b:Bool) (listed:Array Bool) (a:Act) (w:World),(b=true→S w)→qzp md ops p b r listed=true→qzq P ops Q S p r a w→qzl P md ops Q S p r.length listed a w:=by
 intro r;induction r with
 |nil=>
  intro b listed a w _ ho h;simp only[qzp,List.isEmpty_iff]at ho;exact⟨ho,h⟩
 |cons x r ih=>
  obtain⟨i,k⟩:=x;intro b listed a w hS ho h;rcases k with _|_|_
  · simp only[qzp,Bool.and_eq_true]at ho
    obtain⟨⟨hr,hf⟩,ho⟩:=ho;obtain⟨o,v,hi,hy,h⟩:=h;have hr':i∈Region.ready md ops listed:=by simpa using hr
    exact qzn (fun _=>True) hi (Region.noSelect_spec hsel) (fun c a w=>hQ c a o.dst v w) (.inl fun _=>trivial) r.length listed a w (Region.free_spec hi hf) hr' hy (.inl fun _=>trivial) (ih b _ _ _ hS ho h)
  ·
   simp only[qzp,Bool.and_eq_true]at ho;obtain⟨⟨⟨⟨hb,hw⟩,hr⟩,hf⟩,ho⟩:=ho;obtain⟨o,v,hi,hy,h⟩:=h;have hr':i∈Region.ready md ops listed:=by simpa using hr
   refine qzn S hi (Region.noSelect_spec hsel) (fun c a w=>hQ c a o.dst v w) (.inr ⟨fun _ h=>h,fun j oj hj hji hp=>?_⟩) r.length listed a w (Region.free_spec hi hf) hr' hy (.inr (hS hb)) (ih b _ _ _ hS ho h);unfold qzo at hw;obtain⟨hjs,_⟩:=Array.getElem?_eq_some_iff.1 hj;have:=List.all_eq_true.1 hw j (List.mem_range.2 hjs);rw[hj]at this;simp only[Bool.or_eq_true,beq_iff_eq,hp,Array.any_eq_true',Bool.and_eq_true]at this;rcases this with(h0|h0)|⟨e,he,h1,h2⟩
   · cases h0
   · exact absurd h0 hji
   exact⟨e,he,h1,h2⟩
  simp only[qzp,Bool.and_eq_true,beq_iff_eq]at ho;obtain⟨hr,ho⟩:=ho;have hr':i∈Region.ready md ops listed:=by rw[hr];simp
  refine⟨fun h0=>(by rw[hr]at h0;cases h0),fun j hj=>?_⟩;obtain rfl:j=i:=by rw[hr]at hj;simpa using hj
  refine wpOp_mono (fun a' w' h'=>⟨fun hp _=>h'.1 hp,ih (b&&p j) _ _ _ (fun hbp=>h'.1 (by simp only[Bool.and_eq_true]at hbp;exact hbp.2)) ho h'.2⟩) h
theorem qzs {id:Nat}{a:Act}{w:World}(S:World→Prop)(pl:List Nat)(r:List (Nat × Option Bool))(hm:P.follows .mixedOrders=true)(hlen:(r.length==ops.size)=true)(hsel:Region.noSelect ops=true)
 (ho:qzp .any ops (fun i=>pl.contains i) true r (Array.replicate ops.size false)=true)(hQ:∀c a d v w,Q (.panic c) (a.put d v) w→Q (.panic c) a w)(hS:S w.drew)
 (h:qzq P ops Q S (fun i=>pl.contains i) r a w.drew):(Code.region id ops true).wp P Q a w:=by
 have hl:r.length=ops.size:=by simpa using hlen
 refine wp_region_any hm (qzm (S:=S) (p:=fun i=>pl.contains i) _ _ _ _ ?_);have:=qzr (P:=P) (Q:=Q) (S:=S) (md:=.any) hsel hQ r true (Array.replicate ops.size false) a w.drew (fun _=>hS) ho h;rw[hl]at this;exact this
theorem qzt {a:Act}{w:World}(h:Q .normal a w):qzq P ops Q S p [] a w:=h
theorem qzu {l:List Oper}{i:Nat}{r:List (Nat × Option Bool)}{a:Act}{w:World}{o:Oper}(hi:nth l i=some o)(hw:Region.wanted o (yielded l.toArray a.tmps)=true)
 (h:∃v,(∀w1:World,(execOp a.eval o).run P w1=.ok (.value v) w1)∧qzq P l.toArray Q S p r (a.put o.dst v) w):qzq P l.toArray Q S p ((i,none)::r) a w:=
 h.elim fun v hv=>⟨o,v,(qb9 l i).symm.trans hi,.inl ⟨hw,fun w _=>hv.1 w⟩,hv.2⟩
theorem qzv {l:List Oper}{i:Nat}{r:List (Nat × Option Bool)}{a:Act}{w:World}{o:Oper}(hi:nth l i=some o)(hw:Region.wanted o (yielded l.toArray a.tmps)=true)
 (h:∃v,(∀w,S w→(execOp a.eval o).run P w=.ok (.value v) w)∧qzq P l.toArray Q S p r (a.put o.dst v) w):qzq P l.toArray Q S p ((i,some false)::r) a w:=
 h.elim fun v hv=>⟨o,v,(qb9 l i).symm.trans hi,.inl ⟨hw,hv.1⟩,hv.2⟩
theorem qzw {l:List Oper}{i:Nat}{r:List (Nat × Option Bool)}{a:Act}{w:World}{o:Oper}(hi:nth l i=some o)(hw:Region.wanted o (yielded l.toArray a.tmps)=true)
 (h:o.wp P a w (fun a' w'=>(p i=true→S w')∧qzq P l.toArray Q S p r a' w') Q):qzq P l.toArray Q S p ((i,some true)::r) a w:=by
 show wpOp P l.toArray Q i _ a w;unfold wpOp;simp only[(qb9 l i).symm.trans hi,hw,if_true];exact .inl h
end
end
section
open Go.RowKit
theorem xai:∀(l:List (List Nat)) (k:Nat),(∀d∈l,d.length=32)→(l.take k).flatten.length=min k l.length*32
 |[],k,_=>by simp
 |d::l,0,_=>by simp
 |d::l,k+1,h=>by
  rw[List.take_succ_cons,List.flatten_cons,tA6,xai l k (fun x hx=>h x (List.mem_cons_of_mem _ hx)),h d (by simp),List.length_cons];omega
theorem xaj (R:Rsp)(Ab:Option Addr)(cb:Nat)(Ah:Option Addr)(ch:Nat)(Ac:Option Addr)(cc:Nat)(w:World)(hR:R.Ok)
 (hrb:Reads w w.heap.size 1 Ab R.bytes.length (byv R.bytes))(hbc:R.bytes.length≤cb)(hbm:cb≤maxLen)
 (hrh:Reads w w.heap.size 32 Ah R.hashes.length (digv R.hashes))(hhc:R.hashes.length≤ch)(hhm:ch≤maxLen)
 (hrc:Reads w w.heap.size 2 Ac R.tok.2.1.length (cavv R.tok.2.1))(hcc:R.tok.2.1.length≤cc)(hcm:cc≤maxLen):
 Calls Tryz.prog 78 #[.agg (rspv R (.slice Ab R.bytes.length cb) (.slice Ah R.hashes.length ch) (.slice Ac R.tok.2.1.length cc)).toArray] w fun e w'=>∃v,e=.returned (.tuple #[v,.int .i64 ((qii R).1:Int)])∧OwnB w' w.heap.size v (qii R).2∧Below w.heap.size w w':=by
 have kenc:=fun w' h=>qev R.tok.1 R.tok.2.1 Ac cc R.tok.2.2 w' h hcc hcm hR.tok.1 hR.tok.2.1 hR.tok.2.2.1
 have knone:=fun w'=>qln R.tok.1 Ac R.tok.2.1.length cc R.tok.2.2 w' hR.tok.2.2.1 hR.tok.2.2.2
 have kneq:=fun w'=>qlb w' R.hd Hd.zero hR.hd Hd.zero_Ok
 have tl:=qew R.tok.1 R.tok.2.1 R.tok.2.2 hR.tok.2.2.1;have d0:(rspv R (.slice Ab R.bytes.length cb) (.slice Ah R.hashes.length ch) (.slice Ac R.tok.2.1.length cc))[0]? =some (.int .i64 R.why):=rfl;have d1:(rspv R (.slice Ab R.bytes.length cb) (.slice Ah R.hashes.length ch) (.slice Ac R.tok.2.1.length cc))[1]? =some (.int .u64 (R.n:Int)):=rfl;have d2:(rspv R (.slice Ab R.bytes.length cb) (.slice Ah R.hashes.length ch) (.slice Ac R.tok.2.1.length cc))[2]? =some (.slice Ab R.bytes.length cb):=rfl;have d3:(rspv R (.slice Ab R.bytes.length cb) (.slice Ah R.hashes.length ch) (.slice Ac R.tok.2.1.length cc))[3]? =some (.slice Ah R.hashes.length ch):=rfl;have dh:=qlh R (.slice Ab R.bytes.length cb) (.slice Ah R.hashes.length ch) (.slice Ac R.tok.2.1.length cc) hR;have dt:=qli R (.slice Ab R.bytes.length cb) (.slice Ah R.hashes.length ch) (.slice Ac R.tok.2.1.length cc) hR;have lT:=qer R.tok.1 (.slice Ac R.tok.2.1.length cc) R.tok.2.2 hR.tok.2.2.1;have lS:=ql2 R.hd hR.hd;have lH:=ql1 R.hd hR.hd.rootl;have hh:∀j u,(qkz R.hd)[j]? =some u→(hdv R.hd)[j]? =some u:=fun j u hu=>by rw[ql0];exact qlj j u hu
 have hg:∀j u,(byv R.hd.tag)[j]? =some u→(hdv R.hd)[36+j]? =some u:=fun j u hu=>by rw[ql0];exact qlk 36 lH j u hu
 have hq:∀j u,(byv R.hd.root)[j]? =some u→(qkz R.hd)[4+j]? =some u:=fun j u hu=>by
  rw[show 4+j=j+1+1+1+1 from by omega];exact hu
 have oneH:=qll R.hd;have e0:(qkz R.hd)[0]? =some (.int .i64 R.hd.tree):=rfl;have e1:(qkz R.hd)[1]? =some (.int .i64 R.hd.epoch):=rfl;have e2:(qkz R.hd)[2]? =some (.int .u64 (R.hd.size:Int)):=rfl;have e3:(qkz R.hd)[3]? =some (.int .u64 (R.hd.clock:Int)):=rfl;have gR:(byv R.hd.root).length=32:=by rw[qat,hR.hd.rootl]
 have gT:(byv R.hd.tag).length=32:=by rw[qat,hR.hd.tagl]
 have hans:qii R=if 255<R.hashes.length∨(qem R.tok.1 R.tok.2.1 R.tok.2.2).1=4 then(4,[]) else if 65536≤R.bytes.length then(3,[]) else if R.fits=true∧(qem R.tok.1 R.tok.2.1 R.tok.2.2).1=0 then(0,ansB R) else(1,[]):=rfl
 have hab:ansB R=be R.why.toNat 1++(be R.n 8++(txt R.bytes++(be R.hashes.length 1++(R.hashes.flatten++(be (flagsOf R) 1++((if R.hd=Hd.zero then [] else hdB R.hd)++(if R.tok=qft then [] else txt (qem R.tok.1 R.tok.2.1 R.tok.2.2).2))))))):=rfl;have hfl:flagsOf R=(if R.hd=Hd.zero then 0 else 1)+(if R.tok=qft then 0 else 2):=rfl;have hhB:hdB R.hd=be R.hd.tree.toNat 1++(be R.hd.epoch.toNat 4++(be R.hd.size 8++(be R.hd.clock 8++(R.hd.root++R.hd.tag)))):=rfl;have hft:R.fits=(decide (0≤R.why∧R.why≤255)&&decide (0≤R.hd.tree∧R.hd.tree≤255)&&decide (0≤R.hd.epoch∧R.hd.epoch≤2147483647)):=rfl;have hzt:(R.tok.1=0∧R.tok.2.1.length=0∧R.tok.2.2=List.replicate 32 0) ↔ R.tok=qft:=by
  obtain⟨a,b,c⟩:=R.tok;simp[qft,List.length_eq_zero_iff]
 have knone:∀w',Calls Tryz.prog 75 #[.agg (tokv R.tok.1 (.slice Ac R.tok.2.1.length cc) R.tok.2.2).toArray] w' fun e w''=>e=.returned (.bool (decide (R.tok=qft)))∧Below w'.heap.size w' w'':=fun w'=>by
  have:=knone w';simp only[hzt]at this;exact this
 have hn64:=hR.n;have hs64:=hR.hd.size;have hc64:=hR.hd.clock;have hok:=hR.hashes;obtain⟨L,hL⟩:=xeq (rspv R (.slice Ab R.bytes.length cb) (.slice Ah R.hashes.length ch) (.slice Ac R.tok.2.1.length cc));rw[hL]at d0 d1 d2 d3 dh dt ⊢;obtain⟨T,hT⟩:=xeq (tokv R.tok.1 (.slice Ac R.tok.2.1.length cc) R.tok.2.2);rw[hT]at dt lT;simp only[hT]at kenc knone;obtain⟨S,hS⟩:=xeq (hdv R.hd);rw[hS]at dh hh hg lS;simp only[hS]at kneq;obtain⟨H,hH⟩:=xeq (qkz R.hd);rw[hH]at hh hq lH oneH e0 e1 e2 e3;obtain⟨y,hy⟩:=xeq R.why;obtain⟨ny,hny⟩:=xeq R.n;obtain⟨kt,hkt⟩:=xeq R.hd.tree;obtain⟨ke,hke⟩:=xeq R.hd.epoch;obtain⟨ks,hks⟩:=xeq R.hd.size;obtain⟨kc,hkc⟩:=xeq R.hd.clock;obtain⟨rt,hrt⟩:=xeq R.hd.root;obtain⟨tg,htg⟩:=xeq R.hd.tag;obtain⟨bs,hbs⟩:=xeq R.bytes;obtain⟨hs,hhs⟩:=xeq R.hashes;obtain⟨nb,hnb⟩:=xeq R.bytes.length;obtain⟨nh,hnh⟩:=xeq R.hashes.length;obtain⟨nc,hnc⟩:=xeq R.tok.2.1.length;obtain⟨zh,hzh⟩:=xeq (decide (R.hd=Hd.zero));obtain⟨zt,hzt2⟩:=xeq (decide (R.tok=qft));obtain⟨cv,hcv⟩:=xeq R.tok.2.1;obtain⟨⟨tw,tb⟩,htr⟩:∃y,qem R.tok.1 R.tok.2.1 R.tok.2.2=y:=⟨_,rfl⟩;have ezh:(if R.hd=Hd.zero then 0 else 1)=(if zh then 0 else 1):=by rw[←hzh];simp
 have ezt:(if R.tok=qft then 0 else 2)=(if zt then 0 else 2):=by rw[←hzt2];simp
 have ezh2:(if R.hd=Hd.zero then [] else hdB R.hd)=(if zh then [] else hdB R.hd):=by rw[←hzh];simp
 have ezt2:(if R.tok=qft then [] else txt (qem R.tok.1 R.tok.2.1 R.tok.2.2).2)=(if zt then [] else txt (qem R.tok.1 R.tok.2.1 R.tok.2.2).2):=by rw[←hzt2];simp
 rw[ezh2,ezt2]at hab;rw[ezh,ezt]at hfl;simp only[hzh]at kneq;simp only[hzt2]at knone;rw[htr]at tl hans;simp only[htr]at kenc hab;rw[hnb]at hans hbc hrb;rw[hnh]at hans hrh hhc hab;rw[hnc,hcv]at hrc;rw[hnc]at hcc;simp only[hnc]at kenc;simp only[hcv]at kenc;rw[hnb]at d2;rw[hnh]at d3;rw[hy]at d0 hft hab;rw[hny]at d1 hab hn64;rw[hkt]at e0 hft hhB;rw[hke]at e1 hft hhB;rw[hks]at e2 hhB hs64;rw[hkc]at e3 hhB hc64;rw[hrt]at hq gR hhB;rw[htg]at hg gT hhB;rw[hbs]at hrb hab;rw[hhs]at hrh hab hok;have hnb':bs.length=nb:=by rw[←hbs];exact hnb
 have hnh':hs.length=nh:=by rw[←hhs];exact hnh
 have lrt:rt.length=32:=by rw[←hrt];exact hR.hd.rootl
 have ltg:tg.length=32:=by rw[←htg];exact hR.hd.tagl
 dsimp only at tl kenc hans hab;have lt60:tb.length≤60:=tl;obtain⟨AO,AA,AP,D0,D1,D2,D3,DH⟩:=zh8 kenc knone kneq d0 d1 d2 d3 dh;obtain⟨DT,IT,IS,IH,IH',LH,OH,IR⟩:=zh8 dt (zI 31 lT) (zI 55 lS) (zI 53 lH) (show (Tryz.prog.info? 53).map (·.size)=some H.toArray.size by rw[List.size_toArray,lH];exact Tryz.hd_info) lH oneH (show (Tryz.prog.info? 29).map (·.size)=some (byv rt).length by rw[gR];exact Tryz.digest_info);obtain⟨IG,HH,HG,HQ,E0,E1,E2,E3⟩:=zh8 (show (Tryz.prog.info? 29).map (·.size)=some (byv tg).length by rw[gT];exact Tryz.digest_info) hh hg hq e0 e1 e2 e3;obtain⟨A0,BL,BM,BA,A7,AB,BB,AQ⟩:=zh8 hans hab hfl hhB hft hok hnb' hnh';obtain⟨AJ,BC,BN,BO,BP⟩:=zh5 lrt ltg hrb hrh hrc;clear kenc knone kneq d0 d1 d2 d3 dh dt lT lS oneH gR gT hh hg hq e0 e1 e2 e3 hans hab hfl hhB hft hok hnb' hnh' lrt ltg hrb hrh hrc hL hT hS hH hy hny hkt hke hks hkc hrt htg hbs hhs hnb hnh hnc hzh hzt2 hcv htr hzt ezh ezt ezh2 ezt2 tl lH;unfold maxLen at hbm hhm hcm;have t0:Blk (w.alloc (.cells L.toArray 57)) w.heap.size 57 L.toArray:=Blk.new w _ _;obtain⟨B0,T0,AR,AS⟩:=zh4 (show Below w.heap.size w (w.alloc (.cells L.toArray 57)) from qah (tA5 _ _) _) t0 (qap t0 72 T DT.out) (BP.out.laid (.cells L.toArray 57));clear t0;obtain⟨W0,hW0⟩:=eqx (w.alloc (.cells L.toArray 57));rw[←hW0]at B0 T0 AR AS;have BD:=zh1 hW0;clear hW0;go_enter Tryz.func78,Tryz.ntmps78
 go_upto_region 1 with(fail)
 rw[←BD.out];go_wp2_with (refine qaq rfl 31 (.tmp 12) rfl w.heap.size 72 rfl T _ AR.out Tryz.underlying31 rfl IT.out ?_)
 refine(AO.out W0 AS.out).mono ?_;rintro e w1 ⟨v1,rfl,own1,b1⟩;have own1:OwnB w1 W0.heap.size v1 tb:=own1;have b1':=B0.out.trans (b1.mono B0.out.size);have t1:=T0.out.below b1 T0.out.lt;obtain⟨rg1,Z1⟩:=zh2 (qap t1 4 H (fun j u hu=>DH.out j u (HH.out j u hu))) (Blk.new w1 53 #[.int .i64 0,.int .i64 0,.int .u64 0,.int .u64 0,.int .u8 0,.int .u8 0,.int .u8 0,.int .u8 0,.int .u8 0,.int .u8 0,.int .u8 0,.int .u8 0,.int .u8 0,.int .u8 0,.int .u8 0,.int .u8 0,.int .u8 0,.int .u8 0,.int .u8 0,.int .u8 0,.int .u8 0,.int .u8 0,.int .u8 0,.int .u8 0,.int .u8 0,.int .u8 0,.int .u8 0,.int .u8 0,.int .u8 0,.int .u8 0,.int .u8 0,.int .u8 0,.int .u8 0,.int .u8 0,.int .u8 0,.int .u8 0]);have hgw:w.heap.size<w1.heap.size:=t1.lt;obtain⟨T1,B1,AC⟩:=zh3 t1 b1' own1;clear t1 b1' own1 AR AS T0 B0 BD b1;go_upto_region 3 with(first
  |(refine qaq rfl 53 (.tmp 18) rfl w.heap.size 4 rfl H _ rg1.out Tryz.underlying53 rfl IH.out ?_)
  |(refine wpList_store_row rfl 53 (.tmp 6) (.tmp 19) rfl w1.heap.size H.toArray rfl rfl 53 _ Z1.out IH'.out (by simp[LH.out]) (all_oneCell_toArray OH.out) ?_))
 obtain⟨w4,h4⟩:=eqx ((w1.alloc (.cells #[.int .i64 0,.int .i64 0,.int .u64 0,.int .u64 0,.int .u8 0,.int .u8 0,.int .u8 0,.int .u8 0,.int .u8 0,.int .u8 0,.int .u8 0,.int .u8 0,.int .u8 0,.int .u8 0,.int .u8 0,.int .u8 0,.int .u8 0,.int .u8 0,.int .u8 0,.int .u8 0,.int .u8 0,.int .u8 0,.int .u8 0,.int .u8 0,.int .u8 0,.int .u8 0,.int .u8 0,.int .u8 0,.int .u8 0,.int .u8 0,.int .u8 0,.int .u8 0,.int .u8 0,.int .u8 0,.int .u8 0,.int .u8 0] 53)).setRow w1.heap.size H.toArray);rw[←h4];have u4:Blk w4 w1.heap.size 53 H.toArray:=by rw[h4];exact Z1.out.setRow _
 have b4:Below w1.heap.size w1 w4:=by rw[h4];exact below_setRow ((tA5 _ _).alloc (tA4 _) _) (tA4 _) _
 have B4:=zh1 (B1.out.trans (b4.mono B1.out.size));have t4:=T1.out.below b4 T1.out.lt;have own4:=AC.out.kept b4;obtain⟨At,nt,ct,rfl,nct,mct,rdt⟩:=own4.sl;have hnt:tb.length=nt:=qb5 rdt;obtain⟨gh,hgh⟩:=xeq w1.heap.size;rw[hgh]at u4 hgw ⊢;obtain⟨U4,U4lt,T4,T4lt,AT,BQ,AK,AL⟩:=zh8 u4 u4.lt t4 t4.lt rdt hnt (BN.out.call B4.out) (BO.out.call B4.out);have c0:=(t4.cell 0).trans (show L.toArray[0]? =some (.int .i64 y) by simpa using D0.out);have c2:=(t4.cell 2).trans (show L.toArray[2]? =some (.slice Ab nb cb) by simpa using D2.out);have c3:=(t4.cell 3).trans (show L.toArray[3]? =some (.slice Ah nh ch) by simpa using D3.out);have h0:=(u4.cell 0).trans (show H.toArray[0]? =some (.int .i64 kt) by simpa using E0.out);have h1:=(u4.cell 1).trans (show H.toArray[1]? =some (.int .i64 ke) by simpa using E1.out);clear h4 b4 u4 t4 own4 rdt hnt hgh rg1 Z1 T1 B1 AC;by_cases q1:255<nh
 ·
  have q:(255:Int)<nh:=by omega
  have HN:Hid (qii R=(4,[])):=by
   unfold Hid;rw[A0.out,if_pos (.inl q1)]
  go_wp2
  go_ret2
  exact⟨_,by rw[HN.out];rfl,by rw[HN.out];exact OwnB.nil _ _,B4.out⟩
 have p1:¬(255:Int)<nh:=by omega
 by_cases q2:tw=4
 ·
  subst q2;have HN:Hid (qii R=(4,[])):=by
   unfold Hid;rw[A0.out,if_pos (.inr rfl)]
  go_wp2
  go_ret2
  exact⟨_,by rw[HN.out];rfl,by rw[HN.out];exact OwnB.nil _ _,B4.out⟩
 have p2:¬(tw:Int)=4:=by omega
 have A1:=zh1 (A0.out.trans (if_neg (fun h=>h.elim q1 q2)));clear A0;by_cases q3:65536≤nb
 ·
  have q:(65536:Int)≤nb:=by omega
  have HN:Hid (qii R=(3,[])):=by
   unfold Hid;rw[A1.out,if_pos q3]
  go_wp2
  go_ret2
  exact⟨_,by rw[HN.out];rfl,by rw[HN.out];exact OwnB.nil _ _,B4.out⟩
 have p3:¬(65536:Int)≤nb:=by omega
 have A2:=zh1 (A1.out.trans (if_neg q3));clear A1;by_cases q4:0≤y∧y≤255
 ·
  by_cases q5:0≤kt∧kt≤255
  ·
   by_cases q6:ke<0
   ·
    have HN:Hid (qii R=(1,[])):=by
     unfold Hid;rw[A2.out,if_neg];rw[A7.out];simp;omega
    go_wp2_with fail
    refine(qhm _ _).mono ?_;rintro e w' ⟨rfl,rfl⟩;rw[decide_eq_true q4];go_wp2_with fail
    refine(qhm _ _).mono ?_;rintro e w' ⟨rfl,rfl⟩;rw[decide_eq_true q5];go_wp2
    go_ret2
    exact⟨_,by rw[HN.out];rfl,by rw[HN.out];exact OwnB.nil _ _,B4.out⟩
   by_cases q7:2147483647<ke
   ·
    have HN:Hid (qii R=(1,[])):=by
     unfold Hid;rw[A2.out,if_neg];rw[A7.out];simp;omega
    go_wp2_with fail
    refine(qhm _ _).mono ?_;rintro e w' ⟨rfl,rfl⟩;rw[decide_eq_true q4];go_wp2_with fail
    refine(qhm _ _).mono ?_;rintro e w' ⟨rfl,rfl⟩;rw[decide_eq_true q5];go_wp2
    go_ret2
    exact⟨_,by rw[HN.out];rfl,by rw[HN.out];exact OwnB.nil _ _,B4.out⟩
   by_cases q8:tw=0
   ·
    subst q8;have A3:=zh1 (A2.out.trans (if_pos ⟨by rw[A7.out];simp;omega,rfl⟩));have HX:=zh1 (show qii R=(0,ansB R) from A3.out);clear A2 A3 A7;obtain⟨ky,rfl⟩:∃k:Nat,y=k:=⟨y.toNat,by omega⟩;obtain⟨lt,rfl⟩:∃k:Nat,kt=k:=⟨kt.toNat,by omega⟩;obtain⟨le,rfl⟩:∃k:Nat,ke=k:=⟨ke.toNat,by omega⟩;have f1:ky≤255:=by omega
    have f2:lt≤255:=by omega
    have f3:le≤2147483647:=by omega
    have f4:nh≤255:=by omega
    have f5:nb<65536:=by omega
    go_wp2_with fail
    refine(qhm _ _).mono ?_;rintro e w' ⟨rfl,rfl⟩;rw[decide_eq_true q4];go_wp2_with fail
    refine(qhm _ _).mono ?_;rintro e w' ⟨rfl,rfl⟩;rw[decide_eq_true q5];clear q1 q2 q3 q4 q5 q6 q7 p1 p2 p3;go_wp2_with fail
    refine(qee _).mono ?_;rintro e w5 ⟨rfl,hw5,hb5⟩;obtain⟨G,hG⟩:=xeq w4.heap.size;have gG1:w.heap.size<G:=by rw[←hG];exact T4lt.out
    have gG2:gh<G:=by rw[←hG];exact U4lt.out
    have gG3:w.heap.size≤G:=by omega
    have T4:Hid (Blk w4 w.heap.size 57 L.toArray):=T4;have T4lt:Hid (w.heap.size<G):=gG1;have U4lt:Hid (gh<G):=gG2;obtain⟨AK,AL,AT⟩:=zh3 (hG▸AK.out:Reads w4 G 1 Ab nb (byv bs)) (hG▸AL.out:Reads w4 G 32 Ah nh (digv hs)) (hG▸AT.out:Reads w4 G 1 At nt (byv tb));have hnt:=BQ.out;rw[hG]at hw5 hb5 ⊢;clear hG c0 c2 c3 h0 h1;have AD:=tA5 G w4;have A8:=AD.trans hb5;have t5:=T4.out.below A8 T4lt.out;have c0:=(t5.cell 0).trans (show L.toArray[0]? =some (.int .i64 (ky:Int)) by simpa using D0.out);have c1:=(t5.cell 1).trans (show L.toArray[1]? =some (.int .u64 (ny:Int)) by simpa using D1.out);have c2:=(t5.cell 2).trans (show L.toArray[2]? =some (.slice Ab nb cb) by simpa using D2.out);have c3:=(t5.cell 3).trans (show L.toArray[3]? =some (.slice Ah nh ch) by simpa using D3.out);go_wp2_with fail
    refine(qed G G ky 1 [] _ hw5 (by omega) (by first|omega|simp)).mono ?_;rintro e w6 ⟨rfl,hww6,hbw6,-⟩;rw[show qb0 1=1 from rfl]at hww6;obtain⟨X1,hxX1⟩:=eqx ([]++be ky 1);rw[←hxX1]at hww6;have lxX1:X1.length≤1:=by rw[hxX1,tA6];first|(rw[qaw];omega)|(simp only[List.length_nil];rw[qaw];omega)
    have AE:=zh1 hxX1;clear hxX1;have hb6:=hbw6;have AU:=A8.trans hb6;have t6:=T4.out.below AU T4lt.out;have c0:=(t6.cell 0).trans (show L.toArray[0]? =some (.int .i64 (ky:Int)) by simpa using D0.out);have c1:=(t6.cell 1).trans (show L.toArray[1]? =some (.int .u64 (ny:Int)) by simpa using D1.out);have c2:=(t6.cell 2).trans (show L.toArray[2]? =some (.slice Ab nb cb) by simpa using D2.out);have c3:=(t6.cell 3).trans (show L.toArray[3]? =some (.slice Ah nh ch) by simpa using D3.out);clear c0 c2 c3 hw5;go_wp2_with fail
    refine(qed G G ny 8 X1 _ hww6 (by omega) (by first|omega|simp)).mono ?_;rintro e w7 ⟨rfl,hww7,hbw7,-⟩;rw[show qb0 8=8 from rfl]at hww7;obtain⟨X2,hxX2⟩:=eqx (X1++be ny 8);rw[←hxX2]at hww7;have lxX2:X2.length≤9:=by rw[hxX2,tA6];first|(rw[qaw];omega)|(simp only[List.length_nil];rw[qaw];omega)
    have AF:=zh1 hxX2;clear hxX2;have hb7:=hbw7;clear c1;have AM:=AU.trans hb7;have t7:=T4.out.below AM T4lt.out;have c0:=(t7.cell 0).trans (show L.toArray[0]? =some (.int .i64 (ky:Int)) by simpa using D0.out);have c1:=(t7.cell 1).trans (show L.toArray[1]? =some (.int .u64 (ny:Int)) by simpa using D1.out);have c2:=(t7.cell 2).trans (show L.toArray[2]? =some (.slice Ab nb cb) by simpa using D2.out);have c3:=(t7.cell 3).trans (show L.toArray[3]? =some (.slice Ah nh ch) by simpa using D3.out);clear c0 c1 c3 hww6;go_wp2_with fail
    refine(qei G G X2 bs Ab nb cb _ hww7 (by omega) (AK.out.below AM) (by omega) (by unfold maxLen;omega)).mono ?_;rintro e w8 ⟨rfl,hww8,hb8,-⟩;obtain⟨X3,hxX3⟩:=eqx (X2++txt bs);rw[←hxX3]at hww8;have lxX3:X3.length≤65546:=by rw[hxX3,tA6];first| (have:=qiv bs;have:=BB.out;omega)|(simp only[List.length_nil];have:=qiv bs;have:=BB.out;omega)
    have AG:=zh1 hxX3;clear hxX3;clear c2;have AV:=AM.trans hb8;have t8:=T4.out.below AV T4lt.out;have c0:=(t8.cell 0).trans (show L.toArray[0]? =some (.int .i64 (ky:Int)) by simpa using D0.out);have c1:=(t8.cell 1).trans (show L.toArray[1]? =some (.int .u64 (ny:Int)) by simpa using D1.out);have c2:=(t8.cell 2).trans (show L.toArray[2]? =some (.slice Ab nb cb) by simpa using D2.out);have c3:=(t8.cell 3).trans (show L.toArray[3]? =some (.slice Ah nh ch) by simpa using D3.out);clear c0 c1 c2 hww7;go_wp2_with fail
    refine(qed G G nh 1 X3 _ hww8 (by omega) (by first|omega|simp)).mono ?_;rintro e w9 ⟨rfl,hww9,hbw9,-⟩;rw[show qb0 1=1 from rfl]at hww9;obtain⟨X4,hxX4⟩:=eqx (X3++be nh 1);rw[←hxX4]at hww9;have lxX4:X4.length≤65547:=by rw[hxX4,tA6];first|(rw[qaw];omega)|(simp only[List.length_nil];rw[qaw];omega)
    have AH:=zh1 hxX4;clear hxX4;have hb9:=hbw9;clear c3;have AW:=AV.trans hb9;have t9:=T4.out.below AW T4lt.out;have c0:=(t9.cell 0).trans (show L.toArray[0]? =some (.int .i64 (ky:Int)) by simpa using D0.out);have c1:=(t9.cell 1).trans (show L.toArray[1]? =some (.int .u64 (ny:Int)) by simpa using D1.out);have c2:=(t9.cell 2).trans (show L.toArray[2]? =some (.slice Ab nb cb) by simpa using D2.out);have c3:=(t9.cell 3).trans (show L.toArray[3]? =some (.slice Ah nh ch) by simpa using D3.out);clear c0 c1 c2 hww8;have BR:Hid (X4=be ky 1++(be ny 8++(txt bs++be nh 1))):=by
     unfold Hid;rw[AH.out,AG.out,AF.out,AE.out];simp[List.append_assoc]
    have C1:=lxX4;obtain⟨HF,BE⟩:=zh2 AW hww9;clear AD A8 AU AM AV hb5 hbw6 hb6 hbw7 hb7 hb8 hbw9 hb9 t5 t6 t7 t8 lxX1 lxX2 lxX3 lxX4 AE AF AG AH AW hww9 AK;go_wp2
    go_loopw [82] (fun i wr=>∃k:Nat,k≤nh∧i=.int .i64 k∧Hid (Wri wr G G (X4++(hs.take k).flatten))∧Hid (Below G w4 wr)) (fun i _=>nh - (intOf i).toNat)
    case atStart=>exact⟨0,by omega,rfl,by simpa using BE,HF⟩
    case round=>
     clear t9 c3 HF BE;obtain⟨k,hk,rfl,hwr,hfr⟩:=hrel;have tr:=T4.out.below hfr.out T4lt.out;have hlw:w.heap.size<wr.heap.size:=by have:=tr.lt;omega
     by_cases hlt:k<nh
     ·
      have hx:∃d,hs[k]? =some d:=⟨_,tA7 (by rw[AQ.out];exact hlt)⟩;obtain⟨d,hd⟩:=hx;have hdm:=List.mem_of_getElem? hd;have hdl:=(AB.out d hdm).1;obtain⟨b,o,rfl,hab,hcell⟩:=(AL.out.below hfr.out).mid (by omega) (by omega);have RG:=zh1 (show wr.rangeAt b (o+k*32) (byv d) from fun j u hu=>by
       have:=hcell _ u (qlc hs (fun x hx=>(AB.out x hx).1) k d hd j u hu);rwa[←Nat.add_assoc]at this)
      have m0:wr.cell? ⟨b,o+k*32,none⟩=wr.cell? ⟨b,o+k*32,none⟩:=rfl;obtain⟨ID,ID',Zr,LD⟩:=zh4 (show (Tryz.prog.info? 29).map (·.size)=some (byv d).length by rw[qat,hdl];exact Tryz.digest_info) (show (Tryz.prog.info? 29).map (·.size)=some (byv d).toArray.size by rw[List.size_toArray,qat,hdl];exact Tryz.digest_info) (Blk.new wr 29 zLD) (show (byv d).length=32 by rw[qat,hdl]);have hGr:G≤wr.heap.size:=by
       obtain⟨v,hg,hB,-⟩:=hwr.out;have:=hg.lt;omega
      obtain⟨HD,BS,BT⟩:=zh3 hd hdl (xai hs k (fun x hx=>(AB.out x hx).1));clear m0 hcell hdm hd hdl hab;go_upto_region 17 with(first
       |(refine qaq rfl 29 (.tmp 84) rfl b (o+k*32) rfl (byv d) _ RG.out Tryz.underlying29 rfl ID.out ?_)
       |(refine wpList_store_row rfl 29 (.tmp 9) (.tmp 85) rfl wr.heap.size (byv d).toArray rfl rfl 29 _ Zr.out ID'.out (by simp[LD.out]) (all_oneCell_toArray (qau d)) ?_))
      obtain⟨ws,hs1⟩:=eqx ((wr.alloc (.cells zLD 29)).setRow wr.heap.size (byv d).toArray);rw[←hs1];have us:Blk ws wr.heap.size 29 (byv d).toArray:=by rw[hs1];exact Zr.out.setRow _
      have bs1:Below wr.heap.size wr ws:=by rw[hs1];exact below_setRow ((tA5 _ _).alloc (tA4 _) _) (tA4 _) _
      have fs:=hfr.out.trans (bs1.mono hGr);obtain⟨BF,BG,FS⟩:=zh3 (hwr.out.kept_call bs1) (qap us 0 (byv d) (fun j u h=>by simpa using h)) fs;clear hs1 us bs1 fs Zr RG hwr hfr tr;go_wp2_with (refine qaq rfl 29 (.tmp 9) rfl wr.heap.size 0 rfl (byv d) _ BG.out Tryz.underlying29 rfl ID.out ?_)
      refine(qej G G _ d ws BF.out (by rw[tA6,BT.out];omega) BS.out).mono ?_;rintro e wt ⟨rfl,hwt,hbt,-⟩;have BU:=zh1 (show Wri wt G G (X4++(hs.take (k+1)).flatten) by
       rw[List.take_add_one,HD.out];simpa [List.append_assoc] using hwt)
      have FT:=zh1 (FS.out.trans hbt);clear hwt hbt FS BF BG;go_wp2
      go_roundw
      case rel=>exact⟨k+1,by omega,by go_num,BU.out,FT.out⟩
      case measure=>simp[intOf];omega
     obtain rfl:nh=k:=by omega
     have hfl:hs.take nh=hs:=List.take_of_length_le (by rw[AQ.out];exact tA4 _);have lf:=xai hs nh (fun x hx=>(AB.out x hx).1);rw[hfl]at hwr lf;rw[Nat.min_eq_left (by rw[AQ.out];exact tA4 _)]at lf;obtain⟨X5,hX5⟩:=eqx (X4++hs.flatten);rw[←hX5]at hwr;have lX5:X5.length≤74000:=by rw[hX5,tA6,lf];omega
     obtain⟨BV,RS⟩:=zh2 hX5 (qap tr 4 S DH.out);obtain⟨Z0,hZ0⟩:=xeq (hdv Hd.zero);have kneq:=AP.out;have hbz:=qlf;rw[hZ0]at kneq hbz;have BZ:=zh1 hbz;have GWr:=hwr;clear hX5 hfl lf hZ0 hbz AL AB;go_upto_if 93 with(first
      |(refine qaq rfl 55 (.tmp 90) rfl w.heap.size 4 rfl S _ RS.out Tryz.underlying55 rfl IS.out ?_)
      |(refine qbk rfl ⟨.agg Z0.toArray,qfq 55 _ rfl _ _ BZ.out (by simp[Act.eval]),?_⟩))
     clear kneq;obtain⟨f1,hf1⟩:∃f1:Nat,Hid (f1=if zh then 0 else 1):=⟨_,rfl⟩;go_cut [10] (fun s10 wx=>s10=.int .i64 f1∧wx=wr)
     case first=>
      cases zh<;>(have e1:=hf1.out;simp at e1;subst e1;go_wp2;go_meet;case rel=>exact⟨rfl,rfl⟩)
     case rest=>
      obtain⟨rfl,rfl⟩:=hcut;obtain⟨wr,rfl⟩:=eqx wc;have RT:=zh1 (qap tr 72 T DT.out);go_wp2_with (refine qaq rfl 31 (.tmp 96) rfl w.heap.size 72 rfl T _ RT.out Tryz.underlying31 rfl IT.out ?_)
      refine(AA.out wr).mono ?_;rintro e wa ⟨rfl,ba⟩;have hGr:G≤wr.heap.size:=by
       obtain⟨v,hg,hB,-⟩:=hwr.out;have:=hg.lt;omega
      obtain⟨BH,FA⟩:=zh2 (hwr.out.kept_call ba) (hfr.out.trans (ba.mono hGr));clear ba tr RS RT hwr hfr GWr;go_upto_if 99 with(fail)
      obtain⟨f,hf⟩:∃f:Nat,f=(if zh then 0 else 1)+(if zt then 0 else 2):=⟨_,rfl⟩;have hf3:f≤3:=by rw[hf];cases zh<;>cases zt<;>simp
      have AN:=zh1 hf;clear hf;go_cut [10] (fun s10 wx=>s10=.int .i64 f∧wx=wa)
      case first=>
       cases zh<;>cases zt<;>(have e1:=hf1.out;have e2:=AN.out;simp at e1 e2;subst e1;subst e2;go_wp2;go_meet;case rel=>exact⟨rfl,rfl⟩)
      case rest=>
       obtain⟨rfl,rfl⟩:=hcut;obtain⟨wa,rfl⟩:=eqx wc;have hwa:=BH.out;go_wp2_with fail
       refine(qed G G f 1 X5 _ hwa (by omega) (by first|omega|simp)).mono ?_;rintro e wb ⟨rfl,hwwb,hbwb,-⟩;rw[show qb0 1=1 from rfl]at hwwb;obtain⟨X6,hxX6⟩:=eqx (X5++be f 1);rw[←hxX6]at hwwb;have lxX6:X6.length≤74001:=by rw[hxX6,tA6];first|(rw[qaw];omega)|(simp only[List.length_nil];rw[qaw];omega)
       have AX:=zh1 hxX6;clear hxX6;obtain⟨FBb,AY⟩:=zh2 (FA.out.trans hbwb) hwwb;clear hwa hwwb hbwb BH FA;go_upto_region 25 with(fail)
       go_cut [108] (fun s wx=>s=.bool (!zh)∧wx=wb)
       case first=>
        cases zh<;>cases zt<;>(have e2:=AN.out;simp at e2;subst e2;go_wp2;go_meet;case rel=>exact⟨rfl,rfl⟩)
       case rest=>
        obtain⟨rfl,rfl⟩:=hcut;obtain⟨wb,rfl⟩:=eqx wc;go_upto_if 108 with(fail)
        obtain⟨A4,hHB1⟩:=eqx (if zh then [] else hdB R.hd);have A5:=zh1 hHB1;clear hHB1;go_cut [] (fun wx=>Hid (Wri wx G G (X6++A4))∧Hid (Below G w4 wx))
        case first=>
         cases zh with
         |true=>
          have e:A4=[]:=A5.out;subst e;go_wp2
          go_meet
          case rel=>exact⟨by simpa using AY,FBb⟩
         |false=>
          have e:A4=hdB R.hd:=A5.out;have hww:=AY.out;have BW:=FBb.out;have hb0:=tA5 G wb;have AZ:=BW.trans hb0;have t0:=T4.out.below AZ T4lt.out;have c0:=(t0.cell 0).trans (show L.toArray[0]? =some (.int .i64 (ky:Int)) by simpa using D0.out);have c1:=(t0.cell 1).trans (show L.toArray[1]? =some (.int .u64 (ny:Int)) by simpa using D1.out);have c2:=(t0.cell 2).trans (show L.toArray[2]? =some (.slice Ab nb cb) by simpa using D2.out);have c3:=(t0.cell 3).trans (show L.toArray[3]? =some (.slice Ah nh ch) by simpa using D3.out);have u0:=U4.out.below AZ U4lt.out;have h0:=(u0.cell 0).trans (show H.toArray[0]? =some (.int .i64 (lt:Int)) by simpa using E0.out);have h1:=(u0.cell 1).trans (show H.toArray[1]? =some (.int .i64 (le:Int)) by simpa using E1.out);have h2:=(u0.cell 2).trans (show H.toArray[2]? =some (.int .u64 (ks:Int)) by simpa using E2.out);have h3:=(u0.cell 3).trans (show H.toArray[3]? =some (.int .u64 (kc:Int)) by simpa using E3.out);go_wp2_with fail
          refine(qed G G lt 1 X6 _ hww (by omega) (by first|omega|simp)).mono ?_;rintro e v1 ⟨rfl,hwv1,hbv1,-⟩;rw[show qb0 1=1 from rfl]at hwv1;obtain⟨Y1,hxY1⟩:=eqx (X6++be lt 1);rw[←hxY1]at hwv1;have lxY1:Y1.length≤74002:=by rw[hxY1,tA6];first|(rw[qaw];omega)|(simp only[List.length_nil];rw[qaw];omega)
          have B2:=zh1 hxY1;clear hxY1;clear c0 c1 c2 c3 h0 h1 h2 h3;have hb1:=hbv1;have BI:=AZ.trans hb1;have u1:=U4.out.below BI U4lt.out;have h0:=(u1.cell 0).trans (show H.toArray[0]? =some (.int .i64 (lt:Int)) by simpa using E0.out);have h1:=(u1.cell 1).trans (show H.toArray[1]? =some (.int .i64 (le:Int)) by simpa using E1.out);have h2:=(u1.cell 2).trans (show H.toArray[2]? =some (.int .u64 (ks:Int)) by simpa using E2.out);have h3:=(u1.cell 3).trans (show H.toArray[3]? =some (.int .u64 (kc:Int)) by simpa using E3.out);go_wp2_with fail
          refine(qed G G le 4 Y1 _ hwv1 (by omega) (by first|omega|simp)).mono ?_;rintro e v2 ⟨rfl,hwv2,hbv2,-⟩;rw[show qb0 4=4 from rfl]at hwv2;obtain⟨Y2,hxY2⟩:=eqx (Y1++be le 4);rw[←hxY2]at hwv2;have lxY2:Y2.length≤74006:=by rw[hxY2,tA6];first|(rw[qaw];omega)|(simp only[List.length_nil];rw[qaw];omega)
          have B3:=zh1 hxY2;clear hxY2;clear h0 h1 h2 h3;have hb2:=hbv2;have BJ:=BI.trans hb2;have u2:=U4.out.below BJ U4lt.out;have h0:=(u2.cell 0).trans (show H.toArray[0]? =some (.int .i64 (lt:Int)) by simpa using E0.out);have h1:=(u2.cell 1).trans (show H.toArray[1]? =some (.int .i64 (le:Int)) by simpa using E1.out);have h2:=(u2.cell 2).trans (show H.toArray[2]? =some (.int .u64 (ks:Int)) by simpa using E2.out);have h3:=(u2.cell 3).trans (show H.toArray[3]? =some (.int .u64 (kc:Int)) by simpa using E3.out);go_wp2_with fail
          refine(qed G G ks 8 Y2 _ hwv2 (by omega) (by first|omega|simp)).mono ?_;rintro e v3 ⟨rfl,hwv3,hbv3,-⟩;rw[show qb0 8=8 from rfl]at hwv3;obtain⟨Y3,hxY3⟩:=eqx (Y2++be ks 8);rw[←hxY3]at hwv3;have lxY3:Y3.length≤74014:=by rw[hxY3,tA6];first|(rw[qaw];omega)|(simp only[List.length_nil];rw[qaw];omega)
          have B5:=zh1 hxY3;clear hxY3;clear h0 h1 h2 h3;have hb3:=hbv3;have BK:=BJ.trans hb3;have u3:=U4.out.below BK U4lt.out;have h0:=(u3.cell 0).trans (show H.toArray[0]? =some (.int .i64 (lt:Int)) by simpa using E0.out);have h1:=(u3.cell 1).trans (show H.toArray[1]? =some (.int .i64 (le:Int)) by simpa using E1.out);have h2:=(u3.cell 2).trans (show H.toArray[2]? =some (.int .u64 (ks:Int)) by simpa using E2.out);have h3:=(u3.cell 3).trans (show H.toArray[3]? =some (.int .u64 (kc:Int)) by simpa using E3.out);go_wp2_with fail
          refine(qed G G kc 8 Y3 _ hwv3 (by omega) (by first|omega|simp)).mono ?_;rintro e v4 ⟨rfl,hwv4,hbv4,-⟩;rw[show qb0 8=8 from rfl]at hwv4;obtain⟨Y4,hxY4⟩:=eqx (Y3++be kc 8);rw[←hxY4]at hwv4;have lxY4:Y4.length≤74022:=by rw[hxY4,tA6];first|(rw[qaw];omega)|(simp only[List.length_nil];rw[qaw];omega)
          have B6:=zh1 hxY4;clear hxY4;clear h0 h1 h2 h3;have hb4:=hbv4;have AD:=BK.trans hb4;have u4:=U4.out.below AD U4lt.out;have h0:=(u4.cell 0).trans (show H.toArray[0]? =some (.int .i64 (lt:Int)) by simpa using E0.out);have h1:=(u4.cell 1).trans (show H.toArray[1]? =some (.int .i64 (le:Int)) by simpa using E1.out);have h2:=(u4.cell 2).trans (show H.toArray[2]? =some (.int .u64 (ks:Int)) by simpa using E2.out);have h3:=(u4.cell 3).trans (show H.toArray[3]? =some (.int .u64 (kc:Int)) by simpa using E3.out);have RR:=zh1 (qap u4 4 (byv rt) HQ.out);go_wp2_with (refine qaq rfl 29 (.tmp 128) rfl gh 4 rfl (byv rt) _ RR.out Tryz.underlying29 rfl IR.out ?_)
          refine(qej G G Y4 rt v4 hwv4 (by omega) AJ.out).mono ?_;rintro e v5 ⟨rfl,hwv5,hb5,-⟩;obtain⟨Y5,hxY5⟩:=eqx (Y4++rt);rw[←hxY5]at hwv5;have lxY5:Y5.length≤74054:=by rw[hxY5,tA6];first|(rw[AJ.out];omega)|(simp only[List.length_nil];rw[AJ.out];omega)
          have B7:=zh1 hxY5;clear hxY5;clear h0 h1 h2 h3;have A8:=AD.trans hb5;have t5:=T4.out.below A8 T4lt.out;have c0:=(t5.cell 0).trans (show L.toArray[0]? =some (.int .i64 (ky:Int)) by simpa using D0.out);have c1:=(t5.cell 1).trans (show L.toArray[1]? =some (.int .u64 (ny:Int)) by simpa using D1.out);have c2:=(t5.cell 2).trans (show L.toArray[2]? =some (.slice Ab nb cb) by simpa using D2.out);have c3:=(t5.cell 3).trans (show L.toArray[3]? =some (.slice Ah nh ch) by simpa using D3.out);have BX:=zh1 (qap t5 40 (byv tg) (fun j u hu=>by
           have:=DH.out (36+j) u (HG.out j u hu);rwa[←Nat.add_assoc]at this))
          go_wp2_with (refine qaq rfl 29 (.tmp 133) rfl w.heap.size 40 rfl (byv tg) _ BX.out Tryz.underlying29 rfl IG.out ?_)
          refine(qej G G Y5 tg v5 hwv5 (by omega) BC.out).mono ?_;rintro e v6 ⟨rfl,hwv6,hb6,-⟩;have BY:=zh1 (show Wri v6 G G (X6++A4) by
           rw[e,BA.out];have:=hwv6;rw[B7.out,B6.out,B5.out,B3.out,B2.out]at this;simpa [List.append_assoc] using this)
          have FV:=zh1 (A8.trans hb6);clear c0 c1 c2 c3 hwv6 hb6;go_wp2
          go_meet
          case rel=>exact⟨BY.out,FV.out⟩
        case rest=>
         obtain⟨B8,FC⟩:=hcut;obtain⟨wd,rfl⟩:=eqx wc;clear AY FBb;have lHB:A4.length≤85:=by
          rw[A5.out];split
          · simp
          rw[BA.out];simp only[tA6,qaw,AJ.out,BC.out];omega
         go_upto_region 32 with(fail)
         go_cut [138] (fun s wx=>s=.bool (!zt)∧wx=wd)
         case first=>
          cases zh<;>cases zt<;>(have e2:=AN.out;simp at e2;subst e2;go_wp2;go_meet;case rel=>exact⟨rfl,rfl⟩)
         case rest=>
          obtain⟨rfl,rfl⟩:=hcut;obtain⟨wd,rfl⟩:=eqx wc;go_upto_if 138 with(fail)
          obtain⟨A9,hTB1⟩:=eqx (if zt then [] else txt tb);have A6:=zh1 hTB1;clear hTB1;go_cut [] (fun wx=>Hid (Wri wx G G (X6++A4++A9))∧Hid (Below G w4 wx))
          case first=>
           cases zt with
           |true=>
            have e:A9=[]:=A6.out;subst e;go_wp2
            go_meet
            case rel=>exact⟨by simpa using B8,FC⟩
           |false=>
            have e:A9=txt tb:=A6.out;subst e;go_wp2_with fail
            refine(qei G G (X6++A4) tb At nt ct _ B8.out (by rw[tA6];omega) (AT.out.below FC.out) nct mct).mono ?_;rintro e we ⟨rfl,hwe,hbe,-⟩;obtain⟨AI,FE⟩:=zh2 hwe (FC.out.trans hbe);clear hwe hbe;go_wp2
            go_meet
            case rel=>exact⟨AI.out,FE.out⟩
          case rest=>
           obtain⟨AI,FE⟩:=hcut;obtain⟨we,rfl⟩:=eqx wc;clear B8 FC;have lTB:A9.length≤62:=by
            rw[A6.out];split
            · simp
            have:=qiv tb;omega
           have hAB:X6++A4++A9=ansB R:=by
            rw[BL.out,AX.out,BV.out,BR.out,BM.out,←AN.out,A5.out,A6.out,Int.toNat_natCast];simp only[List.append_assoc]
           have hlen:(X6++A4++A9).length≤140737488355328:=by simp only[tA6];omega
           rw[hAB]at AI hlen;have B9:=zh1 hlen;have hGe:w.heap.size≤we.heap.size:=Nat.le_trans B4.out.size FE.out.size;clear hAB hlen;go_wp2_with fail
           refine(qeg G G _ we AI.out B9.out).mono ?_;rintro e wf ⟨vf,rfl,ownf,hbf⟩;obtain⟨HO,C0⟩:=zh2 (show OwnB wf w.heap.size vf (ansB R) from qeq ownf hGe) ((B4.out.trans (FE.out.mono gG3)).trans (hbf.mono hGe));clear ownf hbf AI FE;go_wp2
           go_ret2
           exact⟨_,by rw[HX.out];rfl,by rw[HX.out];exact HO.out,C0.out⟩
   have hn:((tw:Int)==0)=false:=by simpa using q8
   have hn2:((tw:Int) != 0)=true:=by simpa using q8
   have HN:Hid (qii R=(1,[])):=by
    unfold Hid;rw[A2.out,if_neg (fun h=>q8 h.2)]
   go_wp2_with fail
   refine(qhm _ _).mono ?_;rintro e w' ⟨rfl,rfl⟩;rw[decide_eq_true q4];go_wp2_with fail
   refine(qhm _ _).mono ?_;rintro e w' ⟨rfl,rfl⟩;rw[decide_eq_true q5];go_wp2
   go_ret2
   exact⟨_,by rw[HN.out];rfl,by rw[HN.out];exact OwnB.nil _ _,B4.out⟩
  have HN:Hid (qii R=(1,[])):=by
   unfold Hid;rw[A2.out,if_neg];rw[A7.out];simp;omega
  go_wp2_with fail
  refine(qhm _ _).mono ?_;rintro e w' ⟨rfl,rfl⟩;rw[decide_eq_true q4];go_wp2_with fail
  refine(qhm _ _).mono ?_;rintro e w' ⟨rfl,rfl⟩;rw[decide_eq_false q5];go_wp2
  go_ret2
  exact⟨_,by rw[HN.out];rfl,by rw[HN.out];exact OwnB.nil _ _,B4.out⟩
 have HN:Hid (qii R=(1,[])):=by
  unfold Hid;rw[A2.out,if_neg];rw[A7.out];simp;omega
 go_wp2_with fail
 refine(qhm _ _).mono ?_;rintro e w' ⟨rfl,rfl⟩;rw[decide_eq_false q4];go_wp2
 go_ret2
 exact⟨_,by rw[HN.out];rfl,by rw[HN.out];exact OwnB.nil _ _,B4.out⟩
end
section
open Go.RowKit
structure Stp where
 kind:Int
 r:Req
 who:Int
 cavs:List (Int × Nat)
 n:Nat
 raw:List Nat
instance stpInh:Inhabited Stp:=⟨⟨0,⟨0,0,[],[],0,0,0,0,0,0,0,0,0,0,0,0,[]⟩,0,[],0,[]⟩⟩
end
section
open Go.RowKit
theorem xaw (h:Hd)(x:Int):(hdv h).toArray.setIfInBounds 0 (.int .i64 x)=(hdv {h with tree:=x}).toArray:=by simp[hdv]
theorem xax (h:Hd)(x:Int):(hdv h).toArray.setIfInBounds 1 (.int .i64 x)=(hdv {h with epoch:=x}).toArray:=by simp[hdv]
theorem xay (h:Hd)(x:Nat):(hdv h).toArray.setIfInBounds 2 (.int .u64 (x:Int))=(hdv {h with size:=x}).toArray:=by simp[hdv]
theorem xaz (h:Hd)(x:Nat):(hdv h).toArray.setIfInBounds 3 (.int .u64 (x:Int))=(hdv {h with clock:=x}).toArray:=by simp[hdv]
theorem xb0 (h:Hd)(d:List Nat)(hd:d.length=32)(hr:h.root.length=32):(hdv h).take 4++(byv d++(hdv h).drop (4+(byv d).length))=hdv {h with root:=d}:=by
 rw[qat,hd];have e:(hdv h).drop (4+32)=byv h.tag:=by rw[ql0];exact List.drop_left' (ql1 h hr)
 rw[e];simp[hdv]
theorem xb1 (h:Hd)(d:List Nat)(hd:d.length=32)(hr:h.root.length=32)(ht:h.tag.length=32):(hdv h).take 36++(byv d++(hdv h).drop (36+(byv d).length))=hdv {h with tag:=d}:=by
 rw[qat,hd];have e:(hdv h).drop (36+32)=[]:=List.drop_eq_nil_of_le (by rw[ql0,tA6,ql1 h hr,qat,ht];omega);have e2:(hdv h).take 36=qkz h:=by rw[ql0];exact List.take_left' (ql1 h hr)
 rw[e,e2,List.append_nil,ql0];rfl
theorem xb2 (h:Hd)(hr:h.root.length=32)(ht:h.tag.length=32):(hdv h).length=68:=by rw[ql0,tA6,ql1 h hr,qat,ht]
theorem xb3:Tryz.zeroCells55=(hdv Hd.zero).toArray:=by kernel_rfl
theorem xb4 (B g:Nat)(bs:List Nat)(s:RSt)(w:World)(h:Rd w B g bs s)(hb:∀x∈bs,x<256):
 Calls Tryz.prog 73 #[.pointer (some ⟨g,0,none⟩)] w fun e w'=>e=.returned (.agg (hdv (qik bs s).2).toArray)∧Rd w' B g bs (qik bs s).1∧w.grownBy w' (some g):=by
 have HB:=zh1 hb;have hgw:=h.lt;obtain⟨W0,hW0⟩:=eqx ((w.alloc (.cells Tryz.zeroCells55 55)).alloc (.cells Tryz.zeroCells55 55));have r0:Blk W0 w.heap.size 55 (hdv Hd.zero).toArray:=by rw[hW0,←xb3];exact(Blk.new w _ _).alloc _
 have q0:Blk W0 (w.heap.size+1) 55 (hdv Hd.zero).toArray:=by
  have h:=Blk.new (w.alloc (.cells Tryz.zeroCells55 55)) 55 Tryz.zeroCells55;rw[qar]at h;rw[hW0,←xb3];exact h
 have b0:Below w.heap.size w W0:=by rw[hW0];exact qah (qah (tA5 _ _) _) _
 obtain⟨H0,A6,R0,A7⟩:=zh4 (h.below b0) (qad b0 (some g)) r0 hW0;have hG3w:w.heap.size≤w.heap.size+1:=by omega
 clear hb h r0 b0 hW0;go_enter Tryz.func73,Tryz.ntmps73
 go_upto_region 2 with(fail)
 rw[←A7.out];obtain⟨G3,hG3⟩:=xeq (w.heap.size+1);obtain⟨G2,hG2⟩:=xeq w.heap.size;have hgG2:g<G2:=by omega
 have hgG3:g<G3:=by omega
 have hG23:G2<G3:=by omega
 rw[hG3]at q0 hG3w ⊢;have hG2w:w.heap.size≤G2:=by omega
 rw[hG2]at R0 ⊢;have Q0:=zh1 q0;clear q0 hG3 hG2 A7 hgw;go_wp2_with fail
 refine(qfi B g bs s 1 W0 H0.out HB.out).mono ?_;rintro e w1 ⟨rfl,hw1,gw1⟩;have hlk1:=qfh bs s 1 HB.out;rw[show qb0 1=1 from rfl]at hw1 ⊢;obtain⟨⟨s1,k1⟩,hkk1⟩:∃x,rNum bs s 1=x:=⟨_,rfl⟩;rw[hkk1]at hw1 hlk1 ⊢;dsimp only at hw1 hlk1 ⊢;have Kk1:=zh1 hkk1;clear hkk1;have qw1:=Q0.out.grown gw1 (by simp;omega);have rw1:=R0.out.grown gw1 (by simp;omega);have k1b:k1<256:=Nat.lt_of_lt_of_eq hlk1 (by decide);clear hlk1 H0 Q0 R0;have kw:IntKind.i64.wrap (k1:Int)=k1:=IntWalk.i64_in _ (by omega);have cw1:=(qw1.cell 0).trans (show _=some (.int .i64 0) from rfl);have fw1:=qw1.frozen 0;have qw2:=qw1.set_ 0 (.int .i64 (k1:Int));rw[xaw]at qw2;have hsetw2:=qab (p:=⟨G3,0,none⟩) (World.grownBy.refl w1 (some G3)) (.inl rfl) (.int .i64 (k1:Int));obtain⟨Hw2,Rw2,Qw2,A1⟩:=zh4 (hw1.kept hsetw2 qw1 (by decide) (by decide) (by omega)) (rw1.grown hsetw2 (by simp;omega)) qw2 (qac (qac A6.out gw1 (by simp)) hsetw2 (by intro d e;injection e with e;subst e;exact .inr hG3w));clear qw2 hsetw2 hw1 rw1 gw1;go_upto_region 3 with(fail)
 obtain⟨w2,hww2⟩:=eqx (w1.setCell ⟨G3,0,none⟩ (.int .i64 (k1:Int)));rw[←hww2]at Hw2 Rw2 Qw2 A1 ⊢;clear hww2 cw1 fw1 qw1;clear A6 kw;go_wp2_with fail
 refine(qfi B g bs s1 4 w2 Hw2.out HB.out).mono ?_;rintro e w3 ⟨rfl,hw3,gw3⟩;have hlk2:=qfh bs s1 4 HB.out;rw[show qb0 4=4 from rfl]at hw3 ⊢;obtain⟨⟨s2,k2⟩,hkk2⟩:∃x,rNum bs s1 4=x:=⟨_,rfl⟩;rw[hkk2]at hw3 hlk2 ⊢;dsimp only at hw3 hlk2 ⊢;have Kk2:=zh1 hkk2;clear hkk2;have qw3:=Qw2.out.grown gw3 (by simp;omega);have rw3:=Rw2.out.grown gw3 (by simp;omega);have k2b:k2<4294967296:=Nat.lt_of_lt_of_eq hlk2 (by decide);obtain⟨s3,hs3⟩:=eqx (if 2147483647<k2 then qf6 s2 s2.1 12 else s2);obtain⟨A0,H3,Q3,R3,A2⟩:=zh5 hs3 hw3 qw3 rw3 (qac A1.out gw3 (by simp));clear hlk2 hs3 hw3 qw3 rw3 gw3 Hw2 Qw2 Rw2 A1;go_upto_if 13 with(fail)
 go_cut [] (fun wx=>Hid (Rd wx B g bs s3)∧Hid (Blk wx G3 55 (hdv {Hd.zero with tree:=(k1:Int)}).toArray)∧Hid (Blk wx G2 55 (hdv Hd.zero).toArray)∧Hid (w.grownBy wx (some g)))
 case first=>
  by_cases hk:2147483647<k2
  ·
   have q:(2147483647:Int)<k2:=by omega
   have e3:=A0.out;rw[if_pos hk]at e3;subst e3;go_wp2_with fail
   refine(qfb B g bs s2 12 w3 H3.out (by decide)).mono ?_;rintro e wa ⟨rfl,ha,ga⟩;obtain⟨Ha,Qa,Ra,Ga⟩:=zh4 ha (Q3.out.grown ga (by simp;omega)) (R3.out.grown ga (by simp;omega)) (qac A2.out ga (by simp));clear ha ga;go_wp2
   go_meet
   case rel=>exact⟨Ha,Qa,Ra,Ga⟩
  have q:¬(2147483647:Int)<k2:=by omega
  have e3:=A0.out;rw[if_neg hk]at e3;subst e3;go_wp2
  go_meet
  case rel=>exact⟨H3,Q3,R3,A2⟩
 case rest=>
  obtain⟨H4,Q4,R4,A8⟩:=hcut;obtain⟨w4,rfl⟩:=eqx wc;clear H3 Q3 R3 A2;have kw:IntKind.i64.wrap (k2:Int)=k2:=IntWalk.i64_in _ (by omega);have hw4:=H4.out;have qw4:=Q4.out;have rw4:=R4.out;have gw4:=World.grownBy.refl w4 (some g);have cw4:=(qw4.cell 1).trans (show _=some (.int .i64 0) from rfl);have fw4:=qw4.frozen 1;have qw5:=qw4.set_ 1 (.int .i64 (k2:Int));rw[xax]at qw5;have hsetw5:=qab (p:=⟨G3,1,none⟩) (World.grownBy.refl w4 (some G3)) (.inl rfl) (.int .i64 (k2:Int));obtain⟨Hw5,Rw5,Qw5,A3⟩:=zh4 (hw4.kept hsetw5 qw4 (by decide) (by decide) (by omega)) (rw4.grown hsetw5 (by simp;omega)) qw5 (qac (qac A8.out gw4 (by simp)) hsetw5 (by intro d e;injection e with e;subst e;exact .inr hG3w));clear qw5 hsetw5 hw4 rw4 gw4;go_upto_region 7 with(fail)
  obtain⟨w5,hww5⟩:=eqx (w4.setCell ⟨G3,1,none⟩ (.int .i64 (k2:Int)));rw[←hww5]at Hw5 Rw5 Qw5 A3 ⊢;clear hww5 cw4 fw4 qw4;clear A8 kw H4 Q4 R4;go_wp2_with fail
  refine(qfi B g bs s3 8 w5 Hw5.out HB.out).mono ?_;rintro e w6 ⟨rfl,hw6,gw6⟩;have hlk4:=qfh bs s3 8 HB.out;rw[show qb0 8=8 from rfl]at hw6 ⊢;obtain⟨⟨s4,k4⟩,hkk4⟩:∃x,rNum bs s3 8=x:=⟨_,rfl⟩;rw[hkk4]at hw6 hlk4 ⊢;dsimp only at hw6 hlk4 ⊢;have Kk4:=zh1 hkk4;clear hkk4;have qw6:=Qw5.out.grown gw6 (by simp;omega);have rw6:=Rw5.out.grown gw6 (by simp;omega);have k4b:k4<18446744073709551616:=Nat.lt_of_lt_of_eq hlk4 (by decide);clear hlk4 Hw5 Qw5 Rw5;have cw6:=(qw6.cell 2).trans (show _=some (.int .u64 0) from rfl);have fw6:=qw6.frozen 2;have qw7:=qw6.set_ 2 (.int .u64 (k4:Int));rw[xay]at qw7;have hsetw7:=qab (p:=⟨G3,2,none⟩) (World.grownBy.refl w6 (some G3)) (.inl rfl) (.int .u64 (k4:Int));obtain⟨Hw7,Rw7,Qw7,A4⟩:=zh4 (hw6.kept hsetw7 qw6 (by decide) (by decide) (by omega)) (rw6.grown hsetw7 (by simp;omega)) qw7 (qac (qac A3.out gw6 (by simp)) hsetw7 (by intro d e;injection e with e;subst e;exact .inr hG3w));clear qw7 hsetw7 hw6 rw6 gw6;go_upto_region 8 with(fail)
  obtain⟨w7,hww7⟩:=eqx (w6.setCell ⟨G3,2,none⟩ (.int .u64 (k4:Int)));rw[←hww7]at Hw7 Rw7 Qw7 A4 ⊢;clear hww7 cw6 fw6 qw6;clear A3;go_wp2_with fail
  refine(qfi B g bs s4 8 w7 Hw7.out HB.out).mono ?_;rintro e w8 ⟨rfl,hw8,gw8⟩;have hlk5:=qfh bs s4 8 HB.out;rw[show qb0 8=8 from rfl]at hw8 ⊢;obtain⟨⟨s5,k5⟩,hkk5⟩:∃x,rNum bs s4 8=x:=⟨_,rfl⟩;rw[hkk5]at hw8 hlk5 ⊢;dsimp only at hw8 hlk5 ⊢;have Kk5:=zh1 hkk5;clear hkk5;have qw8:=Qw7.out.grown gw8 (by simp;omega);have rw8:=Rw7.out.grown gw8 (by simp;omega);have k5b:k5<18446744073709551616:=Nat.lt_of_lt_of_eq hlk5 (by decide);clear hlk5 Hw7 Qw7 Rw7;have cw8:=(qw8.cell 3).trans (show _=some (.int .u64 0) from rfl);have fw8:=qw8.frozen 3;have qw9:=qw8.set_ 3 (.int .u64 (k5:Int));rw[xaz]at qw9;have hsetw9:=qab (p:=⟨G3,3,none⟩) (World.grownBy.refl w8 (some G3)) (.inl rfl) (.int .u64 (k5:Int));obtain⟨Hw9,Rw9,Qw9,A5⟩:=zh4 (hw8.kept hsetw9 qw8 (by decide) (by decide) (by omega)) (rw8.grown hsetw9 (by simp;omega)) qw9 (qac (qac A4.out gw8 (by simp)) hsetw9 (by intro d e;injection e with e;subst e;exact .inr hG3w));clear qw9 hsetw9 hw8 rw8 gw8;go_upto_region 9 with(fail)
  obtain⟨w9,hww9⟩:=eqx (w8.setCell ⟨G3,3,none⟩ (.int .u64 (k5:Int)));rw[←hww9]at Hw9 Rw9 Qw9 A5 ⊢;clear hww9 cw8 fw8 qw8;clear A4;go_wp2_with fail
  refine(qfl B g bs s5 w9 Hw9.out).mono ?_;rintro e wa ⟨rfl,hwa,gwa⟩;have ldd6:=qfj bs s5;have lbd6:=qfk bs s5 HB.out;obtain⟨⟨s6,d6⟩,hkd6⟩:∃x,rDig bs s5=x:=⟨_,rfl⟩;rw[hkd6]at hwa ldd6 lbd6 ⊢;dsimp only at hwa ldd6 lbd6 ⊢;have Kd6:=zh1 hkd6;clear hkd6;have qwa:=Qw9.out.grown gwa (by simp;omega);have rwa:=Rw9.out.grown gwa (by simp;omega);clear Hw9 Qw9 Rw9;obtain⟨h9,hh9⟩:∃x:Hd,x={Hd.zero with tree:=(k1:Int),epoch:=(k2:Int),size:=k4,clock:=k5}:=⟨_,rfl⟩;have rl9:h9.root.length=32:=by rw[hh9];rfl
  have tl9:h9.tag.length=32:=by rw[hh9];rfl
  have qwa:Blk wa G3 55 (hdv h9).toArray:=by rw[hh9];exact qwa
  have lenx:(hdv h9).length=68:=xb2 h9 rl9 tl9;have thwb:=zh1 (show wa.there G3 4 (byv d6).toArray.size by rw[List.size_toArray,qat,ldd6];exact qf5 qwa 4 32 (by rw[lenx];omega));have scwb:=Blk.setCells (byv d6) 4 wa _ qwa (by rw[lenx,qat,ldd6];omega);rw[xb0 h9 d6 ldd6 rl9]at scwb;obtain⟨ivwb,ovwb⟩:=zh2 (show (Tryz.prog.info? 29).map (·.size)=some (byv d6).toArray.size by rw[List.size_toArray,qat,ldd6];exact Tryz.digest_info) (all_oneCell_toArray (qau d6));have gswb:=qf4 G3 (byv d6) 4 wa;obtain⟨Hwb,Rwb,Qwb,GBwb⟩:=zh4 (hwa.kept gswb qwa (by decide) (by decide) (by omega)) (rwa.grown gswb (by simp;omega)) scwb (qac (qac A5.out gwa (by simp)) gswb (by intro d e;injection e with e;subst e;exact .inr hG3w));clear scwb gswb hwa rwa gwa qwa lenx;go_upto_region 10 with(refine wpList_store_mid rfl 29 (.tmp 31) (.tmp 29) rfl G3 4 (byv d6).toArray rfl rfl thwb.out ivwb.out ovwb.out ?_)
  obtain⟨wb,hwwb⟩:=eqx (wa.setCells G3 4 (byv d6));rw[←hwwb]at Hwb Rwb Qwb GBwb ⊢;clear hwwb thwb ivwb ovwb;clear A5;go_wp2_with fail
  refine(qfl B g bs s6 wb Hwb.out).mono ?_;rintro e wd ⟨rfl,hwd,gwd⟩;have ldd7:=qfj bs s6;have lbd7:=qfk bs s6 HB.out;obtain⟨⟨s7,d7⟩,hkd7⟩:∃x,rDig bs s6=x:=⟨_,rfl⟩;rw[hkd7]at hwd ldd7 lbd7 ⊢;dsimp only at hwd ldd7 lbd7 ⊢;have Kd7:=zh1 hkd7;clear hkd7;have qwd:=Qwb.out.grown gwd (by simp;omega);have rwd:=Rwb.out.grown gwd (by simp;omega);clear Hwb Qwb Rwb;have lenx:(hdv {h9 with root:=d6}).length=68:=xb2 _ ldd6 tl9;have thwe:=zh1 (show wd.there G3 36 (byv d7).toArray.size by rw[List.size_toArray,qat,ldd7];exact qf5 qwd 36 32 (by rw[lenx];omega));have scwe:=Blk.setCells (byv d7) 36 wd _ qwd (by rw[lenx,qat,ldd7];omega);rw[xb1 {h9 with root:=d6} d7 ldd7 ldd6 tl9]at scwe;obtain⟨ivwe,ovwe⟩:=zh2 (show (Tryz.prog.info? 29).map (·.size)=some (byv d7).toArray.size by rw[List.size_toArray,qat,ldd7];exact Tryz.digest_info) (all_oneCell_toArray (qau d7));have gswe:=qf4 G3 (byv d7) 36 wd;obtain⟨Hwe,Rwe,Qwe,GBwe⟩:=zh4 (hwd.kept gswe qwd (by decide) (by decide) (by omega)) (rwd.grown gswe (by simp;omega)) scwe (qac (qac GBwb.out gwd (by simp)) gswe (by intro d e;injection e with e;subst e;exact .inr hG3w));clear scwe gswe hwd rwd gwd qwd lenx;go_upto_region 11 with(refine wpList_store_mid rfl 29 (.tmp 34) (.tmp 33) rfl G3 36 (byv d7).toArray rfl rfl thwe.out ivwe.out ovwe.out ?_)
  obtain⟨we,hwwe⟩:=eqx (wd.setCells G3 36 (byv d7));rw[←hwwe]at Hwe Rwe Qwe GBwe ⊢;clear hwwe thwe ivwe ovwe;clear GBwb;have hrh:qik bs s=(if (⟨(k1:Int),(k2:Int),k4,k5,d6,d7⟩:Hd)=Hd.zero then qf6 s7 s7.1 12 else s7,⟨(k1:Int),(k2:Int),k4,k5,d6,d7⟩):=by
   have e1:rh1 bs s=(s1,k1):=Kk1.out;have e2:rh2 bs s=(s2,k2):=by unfold rh2;rw[e1];exact Kk2.out
   have e3:rh3 bs s=s3:=by unfold rh3;rw[e2];exact A0.out.symm
   have e4:rh4 bs s=(s4,k4):=by unfold rh4;rw[e3];exact Kk4.out
   have e5:rh5 bs s=(s5,k5):=by unfold rh5;rw[e4];exact Kk5.out
   have e6:rh6 bs s=(s6,d6):=by unfold rh6;rw[e5];exact Kd6.out
   have e7:rh7 bs s=(s7,d7):=by unfold rh7;rw[e6];exact Kd7.out
   unfold qik rhH;rw[e1,e2,e4,e5,e6,e7]
  have hok:(⟨(k1:Int),(k2:Int),k4,k5,d6,d7⟩:Hd).Ok:=⟨k4b,k5b,ldd6,lbd6,ldd7,lbd7⟩;have Qe:Hid (Blk we G3 55 (hdv (⟨(k1:Int),(k2:Int),k4,k5,d6,d7⟩:Hd)).toArray):=by rw[hh9]at Qwe;exact Qwe
  obtain⟨hf,hhf⟩:=eqx (⟨(k1:Int),(k2:Int),k4,k5,d6,d7⟩:Hd);rw[←hhf]at hrh hok Qe;have keq:=fun w'=>qla w' hf Hd.zero hok Hd.zero_Ok
  have lS:=ql2 hf hok;have oS:=qlm hf;have hbz:=qlf;obtain⟨zb,hzb⟩:=xeq (decide (hf=Hd.zero));have hz2:(if hf=Hd.zero then qf6 s7 s7.1 12 else s7)=(if zb then qf6 s7 s7.1 12 else s7):=by rw[←hzb];simp
  rw[hz2]at hrh;simp only[hzb]at keq;obtain⟨s8,hs8⟩:=eqx (if zb then qf6 s7 s7.1 12 else s7);rw[←hs8]at hrh;have A9:=zh1 hrh;obtain⟨S,hS⟩:=xeq (hdv hf);rw[hS]at Qe lS oS;have AB:=zh1 hS;simp only[hS]at keq;obtain⟨Z0,hZ0⟩:=xeq (hdv Hd.zero);rw[hZ0]at hbz Rwe;simp only[hZ0]at keq;obtain⟨BZ,IS,IS',LS,OS,LZ,AA,RG⟩:=zh8 hbz (zI 55 lS) (show (Tryz.prog.info? 55).map (·.size)=some S.toArray.size by rw[List.size_toArray,lS];exact Tryz.sig_info) lS oS (show Z0.length=68 by rw[←hZ0];exact ql2 _ Hd.zero_Ok) hs8 (qap Qe.out 0 S (fun j u h=>by simpa using h));clear hbz lS oS hs8 hZ0 hS hzb hz2 hrh hok hhf k1b k2b k4b k5b ldd6 ldd7 lbd6 lbd7 rl9 tl9 hh9 Kk1 Kk2 Kk4 Kk5 Kd6 Kd7 A0 Qwe;go_upto_if 37 with(first
   |(refine qaq rfl 55 (.tmp 3) rfl G3 0 rfl S _ RG.out Tryz.underlying55 rfl IS.out ?_)
   |(refine qbk rfl ⟨.agg Z0.toArray,qfq 55 _ rfl _ _ BZ.out (by simp[Act.eval]),?_⟩))
  clear keq RG;go_cut [] (fun wx=>Hid (Rd wx B g bs s8)∧Hid (Blk wx G3 55 S.toArray)∧Hid (Blk wx G2 55 Z0.toArray)∧Hid (w.grownBy wx (some g)))
  case first=>
   cases zb with
   |true=>
    have e8:s8=qf6 s7 s7.1 12:=AA.out;subst e8;go_wp2_with fail
    refine(qfb B g bs s7 12 we Hwe.out (by decide)).mono ?_;rintro e wf ⟨rfl,ha,ga⟩;obtain⟨Ha,Qa,Ra,Ga⟩:=zh4 ha (Qe.out.grown ga (by simp;omega)) (Rwe.out.grown ga (by simp;omega)) (qac GBwe.out ga (by simp));clear ha ga;go_wp2
    go_meet
    case rel=>exact⟨Ha,Qa,Ra,Ga⟩
   |false=>
    have e8:s8=s7:=AA.out;subst e8;go_wp2
    go_meet
    case rel=>exact⟨Hwe,Qe,Rwe,GBwe⟩
  case rest=>
   obtain⟨Hf,Qf,Rf,GBf⟩:=hcut;obtain⟨wf,rfl⟩:=eqx wc;clear Hwe Qe Rwe GBwe;have RG:=zh1 (qap Qf.out 0 S (fun j u h=>by simpa using h));go_wp2_with (first
    |(refine qaq rfl 55 (.tmp 3) rfl G3 0 rfl S _ RG.out Tryz.underlying55 rfl IS.out ?_)
    |(refine wpList_store_row rfl 55 (.tmp 2) (.tmp 40) rfl G2 S.toArray rfl rfl 55 _ Rf.out IS'.out (by simp[LS.out,LZ.out]) (by simpa using OS.out) ?_))
   have z8:=Rf.out.setRow S.toArray;have AC:=qap z8 0 S (fun j u h=>by simpa using h);refine bodyPost_ret (v:=.agg S.toArray) (qao rfl rfl (run_loadVar_mid _ _ 0 _ S _ AC Tryz.underlying55 rfl (by simpa using IS.out))) rfl ⟨by rw[A9.out,AB.out],?_,?_⟩
   · rw[A9.out]
     exact Hf.out.kept (qam _ _ _) Rf.out (by decide) (by decide) (by omega)
   exact qac GBf.out (qam wf G2 _) (by intro d e;injection e with e;subst e;exact .inr hG2w)
end
end Go.Proofs.YthomgopipiomhaaGreatDoor
