/-
  Lemmas for ModelNumbers, shortened by program.
-/
import Derived.Test.YthomgopipiomhaaGreatDoorBMN19
import Derived.DataShut
namespace Go.Proofs.YthomgopipiomhaaGreatDoor
set_option linter.unusedVariables false
set_option linter.unusedSimpArgs false
set_option maxRecDepth 100000
set_option maxHeartbeats 32000000
theorem Sta.tree_some {s:Sta}{n:Int}{t:Tre}(h:s.tree n=some t):0≤n∧s.tres[n.toNat]? =some t∧t.state≠0∧t.state≠4:=by
 unfold Sta.tree at h;split at h
 ·
  rename_i h0
  split at h
  · cases h
  rename_i x hx
  split at h
  · cases h
  rename_i hne
  injection h with h;subst h;exact⟨h0,hx,fun e=>hne (.inl e),fun e=>hne (.inr e)⟩
 cases h
theorem Sta.tenant_some {s:Sta}{n:Int}{x:Ten}(h:s.tenant n=some x):0≤n∧s.tens[n.toNat]? =some x:=by
 unfold Sta.tenant at h;split at h
 · exact⟨by assumption,h⟩
 cases h
theorem Sta.Ok.tenant_lt {s:Sta}(hs:s.Ok){n:Int}{x:Ten}(h:s.tenant n=some x):0≤n∧n<16:=by
 obtain⟨h0,h1⟩:=Sta.tenant_some h;obtain⟨h2,_⟩:=List.getElem?_eq_some_iff.1 h1;rw[hs.tensn]at h2;omega
theorem qrw (R:Req)(h:∀x∈R.leaf,x<256):∀(l:List Fld) (acc:List Nat),(∀x∈acc,x<256)→∀x∈(qho R l acc).2,x<256
 |[],acc,ha=>by simpa [qho] using ha
 |f::l,acc,ha=>by
  rw[qho];split
  ·
   refine qrw R h l _ (fun x hx=>?_);rcases List.mem_append.1 hx with h1|h1
   · exact ha x h1
   unfold fldB at h1;split at h1
   · exact qaz _ _ x h1
   unfold txt at h1;rcases List.mem_append.1 h1 with h2|h2
   · exact qaz _ _ x h2
   exact h x (List.mem_of_mem_take h2)
  intro x hx;cases hx
theorem qrx (R:Req)(h:∀x∈R.leaf,x<256):∀x∈(qhp R).2,x<256:=by
 unfold qhp;split
 · intro x hx;cases hx
 exact qrw R h _ _ (qaz _ _)
theorem qry (R:Req):∀(l:List Fld) (acc:List Nat),(∀f∈l,(f.2.1=1∨f.2.1=2∨f.2.1=3)∧f.1≤8)→(qho R l acc).2.length≤acc.length+8*l.length
 |[],acc,_=>by simp[qho]
 |f::l,acc,hf=>by
  obtain⟨h1,h2⟩:=hf f (by simp);rw[qho];split
  · have h3:=qry R l (acc++fldB R f) (fun g hg=>hf g (by simp[hg]))
    have e:(fldB R f).length=f.1:=by unfold fldB;rw[if_pos h1,qaw]
    rw[tA6,e]at h3;rw[List.length_cons];omega
  simp
theorem qrz (R:Req)(h:qku R.op=true):(qhp R).2.length≤33:=by
 have h:=of_decide_eq_true h;have h1:∃l:List Fld,fieldsOf R.op=some l∧l.length≤4∧∀f∈l,(f.2.1=1∨f.2.1=2∨f.2.1=3)∧f.1≤8:=by
  have h2:R.op=6∨R.op=7∨R.op=8∨R.op=9∨R.op=10∨R.op=11∨R.op=12:=by omega
  rcases h2 with e|e|e|e|e|e|e<;>rw[e]<;>exact⟨_,rfl,by decide,by decide⟩
 obtain⟨l,hl,h4,hf⟩:=h1;unfold qhp;rw[hl];have h3:=qry R l (be R.op.toNat 1) hf;rw[qaw]at h3;simp only;omega
theorem qs0 (s:Sta)(r:Req)(hr:r.Good)(ha:qku r.op=true):LeafOk (qme s r):=by
 unfold qme;constructor
 · have:=qrz r ha
   simp only[tA6,qaw];omega
 intro x hx;rcases List.mem_append.1 hx with h|h
 · exact qaz _ _ x h
 rcases List.mem_append.1 h with h|h
 · exact qaz _ _ x h
 exact qrx r hr.leafb x h
theorem qs1 (R:Req):∀(l:List Fld) (acc:List Nat),(qho R l acc).1=0→∀f∈l,qhn R f=0
 |[],_,_=>by simp
 |g::l,acc,h=>by
  rw[qho]at h;split at h
  · rename_i hg
    intro f hf;rcases List.mem_cons.1 hf with rfl|hf
    · exact hg
    exact qs1 R l _ h f hf
  rename_i hg
  exact absurd h hg
theorem qs2 {R:Req}(h:(qir R).1=0):(qhp R).1=0:=by
 unfold qir at h;split at h
 · assumption
 rename_i hne
 exact absurd h hne
theorem qs3 {R:Req}(h:(qir R).1=0):∃l,fieldsOf R.op=some l∧∀f∈l,qhn R f=0:=by
 have hb:=qs2 h;unfold qhp at hb;split at hb
 · cases hb
 rename_i l hl
 exact⟨l,hl,qs1 R l _ hb⟩
theorem qs4 {R:Req}(h:(qir R).1=0):1≤R.op∧R.op≤12:=by
 obtain⟨l,hl,_⟩:=qs3 h;have:=qhv R.op l hl;omega
theorem qs5 {R:Req}(h:(qir R).1=0)(e:R.op=1):R.leaf.length≤256:=by
 obtain⟨l,hl,hf⟩:=qs3 h;rw[e,show fieldsOf 1=some [(1,1,35),(0,0,0)] from rfl]at hl;injection hl with hl;subst hl;have h0:=hf (0,0,0) (by simp);unfold qhn at h0;simp at h0;omega
theorem qs6 {R:Req}(h:(qir R).1=0){l:List Fld}(hl:fieldsOf R.op=some l){o:Nat}(ho:(1,1,o)∈l):0≤R.num o∧R.num o≤255:=by
 obtain⟨l',hl',hf⟩:=qs3 h;rw[hl]at hl';injection hl' with hl';subst hl';have h0:=hf _ ho;unfold qhn at h0;simp at h0;omega
theorem qs7 {f t w:Int}(h:mayB f t w=true):t=1∨t=2∨t=3∨t=4:=by
 unfold mayB at h;split at h
 · simp at h;omega
 split at h
 · simp at h;omega
 split at h
 · simp at h;omega
 cases h
theorem qs8 {c:Cfg}{s:Sta}{r:Req}{t:Tre}(hs:s.Ok)(hr:r.Good)(hl:r.leaf.length≤256)(ht:s.tree r.tree=some t):(qm4 c s r t).1.Ok:=by
 obtain⟨h0,h1,h2,h3⟩:=Sta.tree_some ht;unfold qm4;split
 · exact hs
 rename_i hne
 split
 · exact hs
 split
 · exact hs
 split
 · exact hs
 rename_i hq
 split
 · exact hs
 rename_i x hx
 split
 · exact hs
 refine(hs.setX (n:=t.tenant.toNat) (f:=fun x=>{x with used:=(x.used+(r.leaf.length+16)) % 4294967296}) (fun y hy o=>{o with used:=Nat.mod_lt _ (by decide)})).setT (fun y hy o=>?_) (fun e=>absurd e (by omega));have e:y=t:=by
  have h4:s.tres[r.tree.toNat]? =some y:=hy;rw[h1]at h4;injection h4 with h4;exact h4.symm
 subst e;have q1:(y.queue++[r.leaf]).length≤64:=by
  rw[tA6,List.length_singleton];omega
 have q2:y.leaves.length+(y.queue++[r.leaf]).length≤1024:=by
  rw[tA6,List.length_singleton];omega
 have q3:∀b∈y.queue++[r.leaf],LeafOk b:=by
  intro b hb;rcases List.mem_append.1 hb with h|h
  · exact o.queueb b h
  obtain rfl:=List.mem_singleton.1 h;exact⟨by omega,hr.leafb⟩
 exact {o with queue:=q1,leaves:=q2,queueb:=q3}
theorem qs9 {c:Cfg}{s:Sta}{r:Req}{t:Tre}(hs:s.Ok)(ht:s.tree r.tree=some t):(qm7 c s r t).1.Ok:=by
 obtain⟨h0,h1,h2,h3⟩:=Sta.tree_some ht;unfold qm7;split
 · exact hs
 rename_i hne
 have hn:r.tree≠0:=fun e=>hne (.inl e)
 have hm:mayB t.state r.state t.queue.length=true:=by
  cases h:mayB t.state r.state t.queue.length with
  |true=>rfl
  |false=>exact absurd (.inr (by rw[h];rfl)) hne
 have hst:=qs7 hm;have hs1:(if r.state=4 then s.setX t.tenant.toNat (fun x=>{x with used:=x.used - qlt t.queue}) else s).Ok:=by
  split
  · exact hs.setX fun x _ o=>{o with used:=by have:=o.used;show x.used - _<_;omega}
  exact hs
 have e1:(if r.state=4 then s.setX t.tenant.toNat (fun x=>{x with used:=x.used - qlt t.queue}) else s).tres=s.tres:=by split<;>rfl
 refine hs1.setT (fun y hy o=>?_) (fun e=>absurd e (by omega));rw[e1,h1]at hy;injection hy with hy;subst hy;have hq:=o.queue;have hl:=o.leaves;exact {o with
  state:=by show 0≤r.state∧r.state≤4;omega
  live:=fun _=>o.live h2
  deficit:=by
   dsimp only;split
   · rfl
   exact o.deficit
  queue:=by
   dsimp only;split
   · simp
   exact hq
  leaves:=by
   dsimp only;split
   · simp;omega
   exact hl
  queueb:=by
   dsimp only;split
   · simp
   exact o.queueb}
theorem qsa {s:Sta}{r:Req}{t:Tre}(hs:s.Ok)(ht:s.tree r.tree=some t):(qm8 s r).1.Ok:=by
 obtain⟨h0,h1,h2,h3⟩:=Sta.tree_some ht;unfold qm8;split
 · exact hs
 rename_i hn
 split
 · exact hs
 rename_i hw
 refine hs.setT (fun y hy o=>?_) (fun e=>absurd e (by omega));exact {o with weight:=by show 0≤r.weight∧r.weight≤4;omega,live:=fun h=>⟨by show 1≤r.weight;omega,(o.live h).2⟩,deficit:=rfl}
theorem qsb {s:Sta}(hs:s.Ok){n:Nat}{t:Tre}(ht:s.tres[n]? =some t)(hd:t.draws.length<32):(s.setT n fun t=>{t with draws:=t.draws++[s.draw]}).Ok:=by
 refine hs.setT (fun y hy o=>?_) (fun _ y _ h1 h2=>⟨h1,h2⟩);rw[ht]at hy;injection hy with hy;subst hy;exact {o with
  live:=fun h=>⟨(o.live h).1,by simp⟩
  draws:=by simp;omega
  drawb:=fun x hx=>by
   rcases List.mem_append.1 hx with h|h
   · exact o.drawb x h
   obtain rfl:=List.mem_singleton.1 h;exact hs.draw}
theorem qsc {c:Cfg}{s:Sta}{r:Req}{t:Tre}(hs:s.Ok)(ht:s.tree r.tree=some t):(qm9 c s r t).1.Ok:=by
 obtain⟨h0,h1,h2,h3⟩:=Sta.tree_some ht;obtain⟨h4,_⟩:=List.getElem?_eq_some_iff.1 h1;rw[hs.tresn]at h4;unfold qm9;split
 · exact hs
 rename_i hd
 exact(qsb hs h1 (by omega)).pub c h4
theorem qsd {s:Sta}(hs:s.Ok){tn wg:Int}(h1:0≤tn∧tn<16)(h2:1≤wg∧wg≤4):({Tre.zero with state:=1,tenant:=tn,weight:=wg,draws:=[s.draw]}:Tre).Ok:=
 {Tre.zero_ok with
  state:=by show (0:Int)≤1∧(1:Int)≤4;decide
  tenant:=h1
  weight:=by show 0≤wg∧wg≤4;omega
  live:=fun _=>⟨h2.1,by simp⟩
  draws:=by simp
  drawb:=fun x hx=>by
   obtain rfl:=List.mem_singleton.1 hx;exact hs.draw}
theorem qse {c:Cfg}{s:Sta}{r:Req}(hs:s.Ok):(qm6 c s r).1.Ok:=by
 unfold qm6;split
 · exact hs
 rename_i hn
 have hn16:=hs.tresn;split
 · exact hs
 split
 · exact hs
 split
 · exact hs
 rename_i x hx
 split
 · exact hs
 refine Sta.Ok.pub (hs.setT (fun y hy o=>?_) (fun e=>absurd e (by omega))) c (by omega);exact qsd hs (hs.tenant_lt hx) (by omega)
theorem qsf {c:Cfg}{s:Sta}{r:Req}(hs:s.Ok)(hr:r.Good):(qma c s r).1.Ok:=by
 unfold qma;split
 · exact hs
 rename_i hn
 split
 · exact hs
 rename_i x hx
 split
 · exact hs
 split
 · exact hs
 rename_i hg
 refine {hs with grasn:=by simp;omega,gras:=fun g h=>?_,owner:=?_}
 · rcases List.mem_append.1 h with h|h
   · exact hs.gras g h
   obtain rfl:=List.mem_singleton.1 h;exact⟨hs.tenant_lt hx,by show 1≤r.role∧r.role≤4;omega,hr.expires⟩
 have h0:=hs.owner;obtain⟨h1,_⟩:=List.getElem?_eq_some_iff.1 h0;show (s.gras++_)[0]? =_;rw[List.getElem?_append_left h1];exact h0
theorem qsg {s:Sta}{r:Req}(hs:s.Ok):(qmb s r).1.Ok:=by
 unfold qmb;split
 · exact hs
 split
 · exact hs
 rename_i hn
 refine {hs with grasn:=by simpa using hs.grasn,gras:=qn7 hs.gras fun x _ o=>{o with},owner:=?_};show (s.gras.modify r.id _)[0]? =_;rw[qnd _ _ (by omega)];exact hs.owner
theorem qsh {s:Sta}{r:Req}(hs:s.Ok)(hr:r.Good):(qmc s r).1.Ok:=by
 unfold qmc;split
 · exact hs
 split
 · exact hs
 rename_i hn
 split
 · exact hs
 exact hs.setX fun y hy o=>{o with rate:=by show r.rate≤_;omega,burst:=by show r.burst≤_;omega,tok:=tA4 _,store:=hr.store}
theorem qsi {c:Cfg}{s:Sta}{r:Req}(hs:s.Ok)(hr:r.Good)(hl:r.op=1→r.leaf.length≤256):(qmd c s r).1.Ok:=by
 unfold qmd;split
 · exact qse hs
 split
 · exact qsf hs hr
 split
 · exact qsg hs
 split
 · exact qsh hs hr
 split
 · exact hs
 rename_i t ht
 split
 · rename_i h1
   exact qs8 hs hr (hl h1) ht
 split
 · exact qs9 hs ht
 split
 · exact qsa hs ht
 split
 · exact qsc hs ht
 exact hs
theorem qsj {α β:Type}(g:α→β)(f:α→α)(l:List α)(n j:Nat)(hf:n=j→∀x,l[j]? =some x→g (f x)=g x):((l.modify n f)[j]?).map g=(l[j]?).map g:=by
 by_cases e:n=j
 · subst e
   cases h:l[n]? with
   |none=>rw[List.getElem?_modify,h];rfl
   |some x=>rw[qnc f h];simp[hf rfl x h]
 rw[qnd l f e]
theorem Sta.setT_leaves (s:Sta)(n:Nat)(f:Tre→Tre)(hf:n=0→∀t,(f t).leaves=t.leaves):(s.setT n f).tres[0]?.map (·.leaves)=s.tres[0]?.map (·.leaves):=
 qsj _ _ _ _ _ fun e x _=>hf e x
theorem Sta.pub_leaves (c:Cfg)(s:Sta)(n:Nat):(s.pub c n).tres[0]?.map (·.leaves)=s.tres[0]?.map (·.leaves):=
 qsj _ _ _ _ _ fun e x _=>rfl
theorem qsk {c:Cfg}{s:Sta}{r:Req}(ha:qku r.op=true):(qmd c s r).1.tres[0]?.map (·.leaves)=s.tres[0]?.map (·.leaves):=by
 have h6:=of_decide_eq_true ha;unfold qmd;split
 ·
  unfold qm6;split
  · rfl
  split
  · rfl
  split
  · rfl
  split
  · rfl
  split
  · rfl
  rw[Sta.pub_leaves];exact Sta.setT_leaves _ _ _ fun e=>absurd e (by omega)
 split
 ·
  unfold qma;split
  · rfl
  split
  · rfl
  split
  · rfl
  split<;>rfl
 split
 · unfold qmb
   split
   · rfl
   split<;>rfl
 split
 ·
  unfold qmc;split
  · rfl
  split
  · rfl
  split<;>rfl
 split
 · rfl
 rename_i t ht
 split
 · omega
 split
 ·
  unfold qm7;split
  · rfl
  simp only;refine Eq.trans (Sta.setT_leaves _ _ _ ?_) ?_
  · intro _ _
    rfl
  split<;>rfl
 split
 ·
  unfold qm8;split
  · rfl
  split
  · rfl
  refine Sta.setT_leaves _ _ _ ?_;intro _ _;rfl
 split
 ·
  unfold qm9;split
  · rfl
  simp only;rw[Sta.pub_leaves];refine Sta.setT_leaves _ _ _ ?_;intro _ _;rfl
 rfl
theorem qsl {c:Cfg}{s:Sta}{r:Req}(h:qly c s r=0):(qir r).1=0:=by
 unfold qly at h;split at h
 · cases h
 rename_i h0
 omega
theorem qsm {s:Sta}{r:Req}(hs:s.Ok)(hr:r.Good)(ha:qku r.op=true)(h:∀t,s.tres[0]? =some t→t.leaves.length<1024)(ls:Sta):(s.setT 0 fun t=>{t with leaves:=t.leaves++[qme ls r]}).Ok:=by
 obtain⟨t,h1,h2,h3⟩:=hs.first;refine hs.setT (fun y hy o=>?_) (fun _ y _ h4 h5=>⟨h4,h5⟩);have e:y=t:=by
  rw[h1]at hy;injection hy with hy;exact hy.symm
 subst e;have h6:=h y h1;exact {o with
  leaves:=by simp[h3];omega
  leafb:=fun b hb=>by
   rcases List.mem_append.1 hb with h|h
   · exact o.leafb b h
   obtain rfl:=List.mem_singleton.1 h;exact qs0 _ r hr ha
  hds:=by have:=o.hds;simp;omega}
theorem qsn {s s':Sta}(he:s'.tres[0]?.map (·.leaves)=s.tres[0]?.map (·.leaves))(h:(s.tres[0]?.getD Tre.zero).leaves.length<1024):∀t,s'.tres[0]? =some t→t.leaves.length<1024:=by
 intro t ht;rw[ht]at he;cases h0:s.tres[0]? with
 |none=>rw[h0]at he;cases he
 |some x=>
  rw[h0]at he h;simp at he h;rw[he];exact h
theorem qso {c:Cfg}{s:Sta}{r:Req}(hs:s.Ok)(hr:r.Good):(doS c s r).1.Ok:=by
 unfold doS;split
 · exact hs
 rename_i hm
 have hm0:qly c s r=0:=by omega
 have henc:=qsl hm0;have h1:=qsi (c:=c) hs hr (qs5 henc);have h0:qku r.op=true→_:=fun ha=>qsk (c:=c) (s:=s) ha
 obtain⟨s1,a,h⟩:∃s1 a,qmd c s r=(s1,a):=⟨_,_,rfl⟩;rw[h]at h1 h0 ⊢;simp only at h1 h0 ⊢;split
 · exact hs
 split
 · exact hs
 rename_i hl
 split
 · exact hs
 have h2:=h1.setX (n:=(((s.gras[r.tid]?).getD ⟨0,0,0,false⟩).tenant).toNat) (f:=fun x=>{x with tok:=x.tok - qlx r.op r.leaf.length}) (fun x _ o=>{o with tok:=by have:=o.tok;show x.tok - _≤x.burst;omega});split
 · rename_i ha
   refine(qsm h2 hr ha (qsn (s:=s) (h0 ha) ?_) _).pub c (by decide);rw[ha]at hl;simp at hl;exact hl
 exact h2
theorem qsp {c:Cfg}{s:Sta}{bs:List Nat}{y:Nat × Nat}(h:(qi4 bs).1=some y):askS c s bs=(s,(qii (rWhy 12)).2):=by
 unfold askS;rw[h]
theorem qsq {c:Cfg}{s:Sta}{bs:List Nat}(h:(qi4 bs).1=none):askS c s bs=((doS c s (qi4 bs).2).1,(qii (doS c s (qi4 bs).2).2).2):=by
 unfold askS;rw[h]
theorem qsr {c:Cfg}{s:Sta}{bs:List Nat}(hs:s.Ok)(hr:(qi4 bs).2.Good):(askS c s bs).1.Ok:=by
 cases h:(qi4 bs).1 with
 |some y=>
  rw[qsp h];exact hs
 |none=>
  rw[qsq h];dsimp only;exact qso hs hr
theorem qss {ws:List Int}{a n:Nat}(h:qmf ws a=some n):n<ws.length∧1≤ws.getD n 0:=by
 unfold qmf at h;have h1:=List.find?_some h;simp at h1;refine⟨?_,by simpa [List.getD_eq_getElem?_getD] using h1⟩;rcases Nat.lt_or_ge n ws.length with h2|h2
 · exact h2
 rw[List.getElem?_eq_none h2]at h1;simp at h1
theorem qst {s:Sta}{a n:Nat}(h:qmf (s.tres.mapIdx fun i t=>qmg i t) a=some n):n≠0∧∃t,s.tres[n]? =some t∧qkk t.state=true∧1≤t.weight:=by
 obtain⟨h1,h2⟩:=qss h;rw[List.length_mapIdx]at h1;rw[List.getD_eq_getElem?_getD,List.getElem?_mapIdx,tA7 h1]at h2;simp only[Option.map_some,Option.getD_some]at h2;unfold qmg at h2;split at h2
 · omega
 rename_i h3
 refine⟨fun e=>h3 (.inl e),_,tA7 h1,?_,h2⟩;cases h4:qkk (s.tres[n]).state with
 |true=>rfl
 |false=>exact absurd (.inr (by rw[h4];rfl)) h3
theorem qsu {t:Tre}(o:t.Ok){q:Int}(take:Nat)(d:Int)(hd:d=t.deficit+min t.weight 4*min (max q 1) 2)(ht:take=(max (min d t.queue.length) 0).toNat):
 ({t with deficit:=if t.queue.drop take=[] then 0 else d - take,leaves:=t.leaves++t.queue.take take,queue:=t.queue.drop take}:Tre).Ok:=by
 have hl:=o.leaves;have hq:=o.queue;have hw:=o.weight;have h0:0≤d:=by
  rw[hd,o.deficit,Int.zero_add];exact Int.mul_nonneg (by omega) (by omega)
 exact {o with
  deficit:=by
   dsimp only;split
   · rfl
   rename_i h
   have:take<t.queue.length:=by
    rcases Nat.lt_or_ge take t.queue.length with h1|h1
    · exact h1
    exact absurd (List.drop_of_length_le h1) h
   omega
  leaves:=by
   show (t.leaves++t.queue.take take).length+(t.queue.drop take).length≤1024;simp only[tA6,List.length_take,List.length_drop];omega
  leafb:=fun b hb=>by
   rcases List.mem_append.1 hb with h|h
   · exact o.leafb b h
   exact o.queueb b (List.mem_of_mem_take h)
  queue:=by
   show (t.queue.drop take).length≤64;simp only[List.length_drop];omega
  queueb:=fun b hb=>o.queueb b (List.mem_of_mem_drop hb)
  hds:=by
   have:=o.hds;show t.hd.size≤(t.leaves++t.queue.take take).length;rw[tA6];omega}
def takeN (c:Cfg)(t:Tre):Nat:=(max (min (t.deficit+min t.weight 4*min (max c.quantum 1) 2) t.queue.length) 0).toNat
def seqT (c:Cfg)(t:Tre):Tre:=
 {t with deficit:=if t.queue.drop (takeN c t)=[] then 0 else t.deficit+min t.weight 4*min (max c.quantum 1) 2 - takeN c t,leaves:=t.leaves++t.queue.take (takeN c t),queue:=t.queue.drop (takeN c t)}
theorem qsv {s:Sta}(hs:s.Ok):(if 0≤s.lane∧s.lane<s.tres.length then s.lane.toNat else 0)=s.lane.toNat:=by
 have hl:=hs.lane;exact if_pos ⟨hl.1,by rw[hs.tresn];omega⟩
theorem qsw {c:Cfg}{s:Sta}(hs:s.Ok)(h:qmf (s.tres.mapIdx fun i t=>qmg i t) s.lane.toNat=none):seqS c s=s:=by
 unfold seqS;dsimp only;rw[qsv hs,h];have hl:=hs.lane;dsimp only;rw[Int.toNat_of_nonneg hl.1]
theorem qsx {s s1:Sta}(e:s1.tres=s.tres){k:Nat}{t:Tre}(ht:s.tres[k]? =some t)(f:Tre→Tre):s1.setT k f=s1.setT k fun _=>f t:=by
 unfold Sta.setT;rw[qqa (f:=f) (g:=fun _=>f t) (fun x hx=>by
  rw[e,ht]at hx;injection hx with hx;rw[hx])]
theorem qsy {c:Cfg}{s:Sta}(hs:s.Ok){k:Nat}{t:Tre}(h:qmf (s.tres.mapIdx fun i t=>qmg i t) s.lane.toNat=some k)(ht:s.tres[k]? =some t):
 seqS c s=if takeN c t=0 then({s with lane:=(((k+1) % 16:Nat):Int)}:Sta).setT k (fun _=>seqT c t) else(({s with lane:=(((k+1) % 16:Nat):Int)}:Sta).setT k (fun _=>seqT c t)).pub c k:=by
 unfold seqS;dsimp only;rw[qsv hs,h];dsimp only;rw[ht,hs.tresn];simp only[Option.getD_some];rw[qsx (s:=s) (s1:={s with lane:=(((k+1) % 16:Nat):Int)}) rfl ht];rfl
theorem qsz {c:Cfg}{s:Sta}(hs:s.Ok):(seqS c s).Ok:=by
 rcases h:qmf (s.tres.mapIdx fun i t=>qmg i t) s.lane.toNat with _|n
 · rw[qsw hs h]
   exact hs
 obtain⟨h0,t,ht,hr,hw⟩:=qst h;obtain⟨h1,_⟩:=List.getElem?_eq_some_iff.1 ht;have h16:=hs.tresn;have hl1:(0:Int)≤(((n+1) % 16:Nat):Int)∧(((n+1) % 16:Nat):Int)<16:=by omega
 have hs1:({s with lane:=(((n+1) % 16:Nat):Int)}:Sta).Ok:={hs with lane:=hl1};have hs2:=hs1.setT (n:=n) (f:=fun _=>seqT c t) (fun y hy o=>qsu (hs.tre ht) (q:=c.quantum) _ _ rfl rfl) (fun e=>absurd e h0);rw[qsy hs h ht];split
 · exact hs2
 exact hs2.pub c (by omega)
theorem qt3 {c:Cfg}:(newS c).Ok:=by
 refine Sta.Ok.pub (n:=0) ?_ c (by decide);exact {
  clock:=by decide
  draw:=by decide
  lane:=by decide
  tensn:=rfl
  tresn:=rfl
  grasn:=by decide
  tens:=fun x hx=>by
   rcases List.mem_cons.1 hx with rfl|h
   · exact⟨by decide,by decide,by decide,by decide,by decide⟩
   rw[List.eq_of_mem_replicate h];exact Ten.zero_ok
  tres:=fun x hx=>by
   rcases List.mem_cons.1 hx with rfl|h
   · exact {Tre.zero_ok with state:=by show (0:Int)≤1∧(1:Int)≤4;decide,weight:=by show (0:Int)≤1∧(1:Int)≤4;decide,live:=fun _=>⟨by show (1:Int)≤1;decide,by simp⟩,draws:=by simp,drawb:=fun x hx=>by obtain rfl:=List.mem_singleton.1 hx;decide}
   rw[List.eq_of_mem_replicate h];exact Tre.zero_ok
  gras:=fun x hx=>by
   obtain rfl:=List.mem_singleton.1 hx;exact⟨by decide,by decide,by decide⟩
  owner:=rfl
  first:=⟨_,rfl,rfl,rfl⟩}
section
open Go.RowKit
theorem qt4 (op:Int)(n:Nat):qpa op (n:Int)=((qlx op n:Nat):Int):=by
 unfold qpa qlx;split
 · split
   · omega
   split<;>omega
 rfl
theorem qt5 (op:Int)(n:Nat):qlx op n≤16385:=by
 unfold qlx;split<;>omega
theorem qt6 {c:Cfg}{s:Sta}{R:Req}(h:(qir R).1≠0):qly c s R=12:=by
 unfold qly;rw[if_pos h]
theorem qt7 {c:Cfg}{s:Sta}{R:Req}(h:(qir R).1=0)(hg:qri c s R=false):qly c s R=20:=by
 unfold qly;rw[if_neg (by omega)];unfold qri at hg;cases hy:s.gras[R.tid]? with
 |none=>rfl
 |some y=>
  rw[hy]at hg;dsimp only at hg ⊢;cases h1:qk6 (qlr c.seed) (R.tid,R.cavs,R.tag) with
  |false=>rfl
  |true=>
   rw[h1]at hg;rw[if_neg (by decide),if_pos];cases h2:y.revoked with
   |true=>rfl
   |false=>
    rw[h2]at hg;by_cases h3:s.clock<y.expires
    · rw[decide_eq_true h3]at hg
      simp at hg;simp[hg]
    simp[show y.expires≤s.clock by omega]
theorem qt8 {c:Cfg}{s:Sta}{R:Req}{y:Gra}(h:(qir R).1=0)(hg:qri c s R=true)(hy:s.gras[R.tid]? =some y):
 qly c s R=if !qlv y.role R.op y.tenant (qlw s R y.tenant) then 21 else match s.tenant y.tenant with|none=>22|some x=>if x.tok<qlx R.op R.leaf.length then 22 else 0:=by
 unfold qri at hg;rw[hy]at hg;simp only[Bool.and_eq_true]at hg;obtain⟨h1,h2,h3,h4⟩:=hg;have h5:=of_decide_eq_true h3;have h6:¬(y.revoked||decide (y.expires≤s.clock)||!qkf R.op (if qgv R.op then R.tree else 0) s.clock R.cavs)=true:=by
  rw[h4];simp at h2;simp[h2];omega
 unfold qly;rw[if_neg (by omega),hy];dsimp only;rw[if_neg (by rw[h1];decide),if_neg h6];rfl
theorem qt9 {R:Req}(h:(qir R).1=0):R.cavs.length≤4:=by
 have hb:=qs2 h;unfold qir at h;rw[if_pos hb]at h;split at h
 · rename_i h1
   unfold qem at h1;split at h1
   · cases h1
   omega
 rename_i h1
 exact absurd h h1
theorem Req.Good.fit {R:Req}(h:R.Good):R.Fit:=by
 have bd:∀{x:Int},(Lit.int .i64 x).wf=true→x<18446744073709551616:=fun {x} hx=>by
  have:=(Go.Lit.wf_int_iff _ _).1 hx;rw[IntKind.min_i64,IntKind.max_i64]at this;omega
 refine⟨h.tag,fun o=>?_⟩;have a1:=bd h.tree;have a2:=bd h.tenant;have a3:=bd h.role;have a4:=bd h.state;have a5:=bd h.weight;have a6:=h.id;have a7:=h.lo;have a8:=h.hi;have a9:=h.rate;have b1:=h.burst;have b2:=h.store;have b3:=h.expires;unfold Req.num;split<;>omega
theorem Asked.call {w w':World}{col:Col}{R:Req}{Ac:Option Addr}{cc:Nat}{Al:Option Addr}{cl:Nat}(h:Asked w col R Ac cc Al cl)(hb:Below w.heap.size w w'):Asked w' col R Ac cc Al cl:=
 ⟨h.good,h.leaf.call hb,h.leafc,h.leafm,h.cavs.call hb,h.cavc,h.cavm,h.leaf0,h.cavs0⟩
theorem qta (c:Cfg)(s:Sta)(L:Loc)(col:Col)(k g:Nat)(css:List (List Value))(R:Req)(Ac:Option Addr)(cc:Nat)(Al:Option Addr)(cl:Nat)(w:World)(hk:Kind k)(hc:c.Ok)(hs:s.Ok)(h:Mdl w col k g c s L css)
 (hr:Asked w col R Ac cc Al cl)(hT:Tabs w)(hE:w.cell? ⟨0,0,none⟩=some (.iface 327 (.agg #[.pointer (some ⟨3,81,none⟩)]))):
 Calls Tryz.prog 50 #[.pointer (some ⟨g,0,none⟩),.agg (reqv R (.slice Ac R.cavs.length cc) (.slice Al R.leaf.length cl)).toArray] w fun e w'=>∃(y:Gra) (cost:Nat),e=.returned (.tuple #[.agg #[.int .i64 y.tenant,.int .i64 y.role,.int .u64 (y.expires:Int),.bool y.revoked],.int .u32 (cost:Int),.int .i64 ((qly c s R:Nat):Int)])∧
  (qly c s R=0→s.gras[R.tid]? =some y∧cost=qlx R.op R.leaf.length)∧Below w.heap.size w w':=by
 have rlen:=qis R (.slice Ac R.cavs.length cc) (.slice Al R.leaf.length cl) hr.good.tag;have rest:=qgu R (.slice Ac R.cavs.length cc) (.slice Al R.leaf.length cl) hr.good.tag;obtain⟨Q,hQ⟩:=xeq (reqv R (.slice Ac R.cavs.length cc) (.slice Al R.leaf.length cl));have CE:=fun(w':World)(hb:Below w.heap.size w w')=>qiw R Ac cc Al cl w' hr.good.fit (hr.leaf.call hb) hr.leafc hr.leafm (hr.cavs.call hb) hr.cavc hr.cavm hr.good.tid hr.good.cavn
 have CG:=fun(w':World)(hb:Below w.heap.size w w')(h4:R.cavs.length≤4)=>qro c s L col k g css R Ac cc Al cl w' hk hc hs (h.call hb) (hr.call hb) (hT.below hb hT.size) h4
 have CA:=fun(w':World)(hb:Below w.heap.size w w')(own ro ex rv:Value)(tn:Int)=>qrp c s L col k g css R (.slice Ac R.cavs.length cc) (.slice Al R.leaf.length cl) own ro ex rv tn w' hk hs (h.call hb) hr.good.tag hr.good.id
 rw[hQ]at rlen rest CE CG CA ⊢;obtain⟨W0,hW0⟩:=eqx ((w.alloc (.cells Q.toArray 34)).alloc (.cells #[.int .i64 0,.int .i64 0,.int .u64 0,.bool false] 66));have q0:Blk W0 w.heap.size 34 Q.toArray:=by rw[hW0];exact(Blk.new w _ _).alloc _
 have z0:Blk W0 (w.heap.size+1) 66 #[.int .i64 0,.int .i64 0,.int .u64 0,.bool false]:=by
  have h:=Blk.new (w.alloc (.cells Q.toArray 34)) 66 #[.int .i64 0,.int .i64 0,.int .u64 0,.bool false];rw[qar]at h;rw[hW0];exact h
 have b0:Below w.heap.size w W0:=by rw[hW0];exact qah (qah (tA5 _ _) _) _
 have rng:W0.rangeAt w.heap.size 0 Q:=qap q0 0 Q (fun j u h=>by simpa using h);have kop:Q.toArray[0]? =some (.int .i64 R.op):=by rw[tA3,←hQ];rfl
 have k47:Q.toArray[47]? =some (.slice Al R.leaf.length cl):=by rw[tA3];exact rest 12
 obtain⟨H,BC,Q0,Z0,B0,HK,HC,HS⟩:=zh8 h hW0 q0 z0 b0 hk hc hs;obtain⟨HR,RL,HQ,TT,HE,AF,AO,AP⟩:=zh8 hr rlen hQ hT hE kop k47 rng;obtain⟨AQ,AR,AS,AD⟩:=zh4 CE CG CA (zI 34 rlen);clear h q0 z0 b0 hk hc hs hr rlen rest hQ hT hE kop k47 rng CE CG CA;obtain⟨en,hen⟩:=xeq ((qir R).1);have AA:=zh1 hen;clear hen;go_enter Tryz.func50,Tryz.ntmps50
 go_upto_region 1 with(fail)
 rw[←hW0];clear hW0;go_wp2_with (refine qaq rfl 34 (.tmp 3) rfl w.heap.size 0 rfl Q _ AP.out Tryz.underlying34 rfl AD.out ?_)
 refine(AQ.out W0 B0.out).mono ?_;rintro e w1 ⟨v1,rfl,o1,b1⟩;rw[AA.out];obtain⟨B1,AB,Z1,Q1⟩:=zh4 b1 (B0.out.trans (b1.mono B0.out.size)) (Z0.out.below b1 Z0.out.lt) (Q0.out.below b1 Q0.out.lt);clear o1 b1;by_cases h0:en=0
 ·
  subst h0;have h4:=qt9 AA.out;have AT:=zh1 h4;clear h4;have AE:=zh1 (qap Q1.out 0 Q (fun j u h=>by simpa using h));go_upto_region 4 with(fail)
  go_wp2_with (refine qaq rfl 34 (.tmp 3) rfl w.heap.size 0 rfl Q _ AE.out Tryz.underlying34 rfl AD.out ?_)
  refine(AR.out w1 AB.out AT.out).mono ?_;rintro e w2 ⟨y,rfl,hy,b2⟩;obtain⟨gb,hgb⟩:=xeq (qri c s R);rw[hgb]at hy ⊢;obtain⟨tn,htn⟩:=xeq y.tenant;obtain⟨ro,hro⟩:=xeq y.role;obtain⟨X,hX⟩:=xeq (grav y);rw[show (#[.int .i64 y.tenant,.int .i64 y.role,.int .u64 (y.expires:Int),.bool y.revoked]:Array Value)=X.toArray by rw[←hX];rfl];have lX:X.length=4:=by rw[←hX];rfl
  have oX:∀u∈X,u.oneCell'=true:=by
   rw[←hX];intro u hu;unfold grav at hu;simp only[List.mem_cons,List.not_mem_nil,or_false]at hu;rcases hu with rfl|rfl|rfl|rfl<;>rfl
  obtain⟨X0,X1,XA,A8,LX,OX,HY,AG⟩:=zh8 (show X.toArray[0]? =some (.int .i64 tn) by rw[←hX,←htn];rfl) (show X.toArray[1]? =some (.int .i64 ro) by rw[←hX,←hro];rfl) (show X.toArray=#[.int .i64 tn,.int .i64 y.role,.int .u64 (y.expires:Int),.bool y.revoked] by rw[←hX,←htn];rfl) hX lX oX hy hgb;obtain⟨A9,AH,A0,B2,GN⟩:=zh5 htn hro (zI 66 lX) b2 (Blk.new w2 66 #[.int .i64 0,.int .i64 0,.int .u64 0,.bool false]);clear hX lX oX hy hgb htn hro b2;go_upto_region 5 with(refine zst 66 (.tmp 9) (.tmp 27) w2.heap.size X GN.out A0.out (by simp[LX.out]) OX.out ?_)
  obtain⟨W3,hW3⟩:=eqx ((w2.alloc (.cells #[.int .i64 0,.int .i64 0,.int .u64 0,.bool false] 66)).setRow w2.heap.size X.toArray);rw[←hW3];obtain⟨G,hG⟩:=eqx w2.heap.size;rw[←hG];have GS:=zh1 (show w1.heap.size≤G by rw[hG];exact B2.out.size);have g3:Blk W3 G 66 X.toArray:=by rw[hW3,hG];exact(Blk.new _ _ _).setRow _
  have b3:Below w1.heap.size w1 W3:=by rw[hW3];exact below_setRow (B2.out.alloc B2.out.size _) B2.out.size _
  obtain⟨G3,B3,AC,Z3,Q3⟩:=zh5 g3 b3 (AB.out.trans (b3.mono AB.out.size)) (Z1.out.below b3 Z1.out.lt) (Q1.out.below b3 Q1.out.lt);clear hW3 hG g3 b3;have AU:=zh1 (qap G3.out 0 X (fun j u h=>by simpa using h));cases gb with
  |false=>
   have A1:=zh1 (qt7 (c:=c) (s:=s) AA.out AG.out);go_wp2_with (first
    |(refine qaq rfl 66 (.tmp 9) rfl G 0 rfl X _ (AU.out) Tryz.underlying66 rfl A0.out ?_)
    |(refine zst 66 (.tmp 4) (.tmp 31) (w.heap.size+1) X (Z3.out) A0.out (by simp[LX.out]) OX.out ?_))
   have A3:=qap ((Z3.out).setRow X.toArray) 0 X (fun j u h=>by simpa using h);refine bodyPost_ret (qgh rfl rfl (run_loadVar_mid _ _ 0 _ X _ A3 Tryz.underlying66 rfl A0.out)) rfl ⟨y,0,?_,fun h=>?_,below_setRow (AC.out) (by omega) _⟩
   · rw[A1.out,←A8.out]
     rfl
   rw[A1.out]at h;cases h
  |true=>
   have hyy:=HY.out rfl;have hyo:=HS.out.gra hyy;obtain⟨AV,A1⟩:=zh2 hyy (qt8 AA.out AG.out hyy);obtain⟨m,rfl⟩:∃m:Nat,tn=m:=⟨tn.toNat,by have:=hyo.tenant;rw[A9.out]at this;omega⟩;have hm16:m<16:=by have:=hyo.tenant;rw[A9.out]at this;omega
   obtain⟨x,hx⟩:∃x,s.tens[m]? =some x:=⟨_,tA7 (by rw[HS.out.tensn];omega)⟩;have HX:=zh1 hx;have hxt:s.tenant y.tenant=some x:=by
    unfold Sta.tenant;rw[A9.out,if_pos (by omega),Int.toNat_natCast];exact hx
   obtain⟨AW,HM⟩:=zh2 hxt hm16;clear hyy hyo hx hxt hm16;go_upto_region 8 with(fail)
   obtain⟨W4,hW4⟩:=eqx (W3.alloc (.cells #[.pointer none] 218));rw[←hW4];obtain⟨p,hp⟩:=eqx W3.heap.size;rw[←hp];have p4:Blk W4 p 218 #[.pointer none]:=by rw[hW4,hp];exact Blk.new _ _ _
   have b4:Below W3.heap.size W3 W4:=by rw[hW4];exact qah (tA5 _ _) _
   obtain⟨PS,P4,BE,A6,Z4,Q4,G4⟩:=zh7 (show W3.heap.size≤p by omega) p4 b4 (AC.out.trans (b4.mono AC.out.size)) (Z3.out.below b4 Z3.out.lt) (Q3.out.below b4 Q3.out.lt) (G3.out.below b4 G3.out.lt);clear hW4 hp p4 b4;obtain⟨S,A2⟩:∃S:World→Prop,Hid (∀w',S w'=(Below W4.heap.size W4 w')):=⟨_,fun _=>rfl⟩;refine zrs S 12 [(0,false),(1,false),(2,false),(3,false),(4,false),(5,false),(6,false),(7,false),(8,false),(11,false),(9,true),(10,true),(12,true)] ((A2.out _).mpr ((tA5 _ _).drew)) ?_;obtain⟨F0,F1,F2,FQ,FG⟩:=zh5 (fun(w':World)(h:S w')=>((G4.out.below ((A2.out w').mp h) G4.out.lt).cell 0).trans X0.out) (fun(w':World)(h:S w')=>((G4.out.below ((A2.out w').mp h) G4.out.lt).cell 1).trans X1.out) (fun(w':World)(h:S w')=>((Q4.out.below ((A2.out w').mp h) Q4.out.lt).cell 0).trans AF.out) (fun(w':World)(h:S w')=>qap (Q4.out.below ((A2.out w').mp h) Q4.out.lt) 0 Q (fun j u h=>by simpa using h)) (fun(w':World)(h:S w')=>qap (G4.out.below ((A2.out w').mp h) G4.out.lt) 0 X (fun j u h=>by simpa using h));iterate 7 (refine zrd rfl rfl (fun w1 hS=>by have g0:=F0.out w1 hS;have g1:=F1.out w1 hS;have g2:=F2.out w1 hS;clear hS;go_simp;try rfl) ?_;simp only[Act.put,tA0,tA1,tA2])
   refine qnf rfl rfl 34 (.tmp 3) rfl w.heap.size 0 rfl Q _ FQ.out Tryz.underlying34 rfl AD.out ?_;try simp only[Act.put,tA0,tA1,tA2]
   refine qnf rfl rfl 66 (.tmp 9) rfl G 0 rfl X _ FG.out Tryz.underlying66 rfl A0.out ?_;try simp only[Act.put,tA0,tA1,tA2]
   iterate 1 (refine zrd rfl rfl (fun w1 hS=>by go_simp;(try go_bits);try rfl) ?_;simp only[Act.put,tA0,tA1,tA2])
   obtain⟨Wd,hWd⟩:=eqx W4.drew;have BD:=zh1 (show Below W4.heap.size W4 Wd by rw[hWd];exact(tA5 _ _).drew);rw[←hWd];clear hWd;have AX:=zh1 (A6.out.trans (BD.out.mono A6.out.size));refine qbj rfl rfl ?_;go_simp;rw[XA.out];refine(AS.out Wd AX.out (.bool false) (.int .i64 y.role) (.int .u64 (y.expires:Int)) (.bool y.revoked) (m:Int)).mono ?_;rintro e w5 ⟨rfl,b5⟩;have B5:=zh1 (BD.out.trans (b5.mono BD.out.size));clear b5;refine⟨(A2.out _).mpr B5.out,?_⟩;try simp only[Act.put,tA0,tA1,tA2]
   refine qbj rfl rfl ?_;go_simp;refine(qrr ro R.op (m:Int) (qlw s R (m:Int)) w5).mono ?_;rintro e w6 ⟨v6,rfl,b6,hd1,hd2⟩;obtain⟨B6,S5⟩:=zh2 (B5.out.trans (b6.mono B5.out.size)) (show W4.heap.size≤w5.heap.size from B5.out.size);clear b6;refine⟨(A2.out _).mpr B6.out,?_⟩;try simp only[Act.put,tA0,tA1,tA2]
   refine qbj rfl rfl ?_;go_simp;cases hdec:qlv ro R.op (m:Int) (qlw s R (m:Int)) with
   |false=>
    obtain⟨eg,rfl,e6,es⟩:=hd2 hdec;have why21:qly c s R=21:=by
     rw[A1.out,AH.out,A9.out,hdec];rfl
    obtain⟨A5,E6,ES⟩:=zh3 why21 e6 es;clear hd1 hd2 hdec e6 es why21;obtain⟨P6,A7,G6,Z6⟩:=zh4 (P4.out.below B6.out P4.out.lt) (A6.out.trans (B6.out.mono A6.out.size)) (G4.out.below B6.out G4.out.lt) (Z4.out.below B6.out Z4.out.lt);refine(qrv ⟨eg,0,none⟩ ⟨p,0,none⟩ (.pointer none) w6 (qai HE.out A7.out) ((P6.out.cell 0).trans rfl) (P6.out.frozen 0)).mono ?_;rintro e w7 ⟨rfl,hw7⟩;obtain⟨W6,hW6⟩:=eqx ((((w6.alloc (.cells #[.pointer (some ⟨p,0,none⟩)] 222)).alloc (.cells #[.pointer (some ⟨3,222,none⟩),.pointer (some ⟨w6.heap.size,0,none⟩),.int .u64 150] 284)).alloc (.cells #[.pointer (some ⟨3,222,none⟩),.pointer (some ⟨w6.heap.size,0,none⟩),.int .u64 150] 284)).alloc (.cells #[.pointer (some ⟨eg,0,none⟩)] 218));rw[←hW6]at hw7;have b66:Below w6.heap.size w6 W6:=by rw[hW6];exact qah (qah (qah (qah (tA5 _ _) _) _) _) _
    have AI:=P6.out.below b66 P6.out.lt;have AJ:=E6.out.below b66 E6.out.lt;have AK:=G6.out.below b66 G6.out.lt;have AL:=Z6.out.below b66 Z6.out.lt;have AM:=A7.out.trans (b66.mono A7.out.size);have pw:w.heap.size≤p:=by have:=PS.out;have:=AC.out.size;omega
    have ne1:eg≠p:=by have:=ES.out;have:=P4.out.lt;have:=S5.out;omega
    have ne2:G≠p:=by have:=G3.out.lt;have:=PS.out;omega
    have ne3:w.heap.size+1≠p:=by have:=Z3.out.lt;have:=PS.out;omega
    have p7:Blk w7 p 218 #[.pointer (some ⟨eg,0,none⟩)]:=by rw[hw7];exact AI.set_ 0 _
    have e7:Blk w7 eg 224 #[.int .i64 R.op,.int .i64 ro,.int .i64 21]:=by rw[hw7];exact AJ.far (p:=⟨p,0,none⟩) ne1 _
    have g7:Blk w7 G 66 X.toArray:=by rw[hw7];exact AK.far (p:=⟨p,0,none⟩) ne2 _
    have z7:Blk w7 (w.heap.size+1) 66 #[.int .i64 0,.int .i64 0,.int .u64 0,.bool false]:=by rw[hw7];exact AL.far (p:=⟨p,0,none⟩) ne3 _
    have b7:Below w.heap.size w w7:=by rw[hw7];exact AM.setCell (p:=⟨p,0,none⟩) pw _
    obtain⟨AY,AZ,B4,P7,E7,G7,Z7,B7⟩:=zh8 ne3 (show eg≠w.heap.size+1 by have:=ES.out;have:=A6.out.size;have:=S5.out;have:=Z4.out.lt;omega) (show G≠w.heap.size+1 by have:=GS.out;have:=Z1.out.lt;omega) p7 e7 g7 z7 b7;clear hw7 hW6 b66 AI AJ AK AL AM p7 e7 g7 z7 b7 ne1 ne2 ne3 pw A2 F0 F1 F2 FQ FG;try simp only[Act.put,tA0,tA1,tA2]
    refine qbg ?_;go_upto_region 9 with(fail)
    obtain⟨S,A2⟩:∃S:World→Prop,Hid (∀w',S w'=(Below w.heap.size w w'∧Blk w' p 218 #[.pointer (some ⟨eg,0,none⟩)]∧Blk w' eg 224 #[.int .i64 R.op,.int .i64 ro,.int .i64 21]∧Blk w' G 66 X.toArray)):=⟨_,fun _=>rfl⟩;refine zrs S 8 [(0,false),(1,false),(2,false),(3,false),(4,false),(5,true),(6,false),(7,false)] ((A2.out _).mpr ⟨B7.out.drew,P7.out,E7.out,G7.out⟩) ?_;obtain⟨F0,F1,FG⟩:=zh3 (fun(w':World)(h:S w')=>(((A2.out w').mp h).2.1.cell 0).trans (show (#[.pointer (some ⟨eg,0,none⟩)]:Array Value)[0]? =some (.pointer (some ⟨eg,0,none⟩)) from rfl)) (fun(w':World)(h:S w')=>(((A2.out w').mp h).2.2.1.cell 2).trans (show (#[.int .i64 R.op,.int .i64 ro,.int .i64 21]:Array Value)[2]? =some (.int .i64 21) from rfl)) (fun(w':World)(h:S w')=>qap ((A2.out w').mp h).2.2.2 0 X (fun j u h=>by simpa using h));refine qnf rfl rfl 66 (.tmp 9) rfl G 0 rfl X _ FG.out Tryz.underlying66 rfl A0.out ?_;try simp only[Act.put,tA0,tA1,tA2]
    iterate 4 (refine zrd rfl rfl (fun w1 hS=>by have g0:=F0.out w1 hS;have g1:=F1.out w1 hS;clear hS;go_simp;try rfl) ?_;simp only[Act.put,tA0,tA1,tA2])
    obtain⟨W8,hW8⟩:=eqx w7.drew;have b8:Below w7.heap.size w7 W8:=by rw[hW8];exact(tA5 _ _).drew
    rw[←hW8];obtain⟨Z8,B8,P8,E8,G8⟩:=zh5 (Z7.out.below b8 Z7.out.lt) (B7.out.trans (b8.mono B7.out.size)) (P7.out.below b8 P7.out.lt) (E7.out.below b8 E7.out.lt) (G7.out.below b8 G7.out.lt);clear hW8 b8;refine qbj rfl rfl ?_;refine wp_store_row 66 (.tmp 4) (.tmp 45) rfl (w.heap.size+1) X.toArray rfl rfl 66 _ Z8.out (by simpa using A0.out) (by simp[LX.out]) (by simpa using OX.out) ?_;have gp:=P8.out.grown (qam _ (w.heap.size+1) X.toArray) (by intro e;injection e with e;exact AY.out e.symm);have ge:=E8.out.grown (qam _ (w.heap.size+1) X.toArray) (by intro e;injection e with e;exact AZ.out e);have gx:=G8.out.grown (qam _ (w.heap.size+1) X.toArray) (by intro e;injection e with e;exact B4.out e);have A3:=qap (Z8.out.setRow X.toArray) 0 X (fun j u h=>by simpa using h);have B9:=zh1 A3;refine⟨fun _=>(A2.out _).mpr ⟨below_setRow B8.out (by omega) _,gp,ge,gx⟩,?_⟩;clear gp ge gx A3;try simp only[Act.put,tA0,tA1,tA2]
    iterate 2 (refine zrd rfl rfl (fun w1 hS=>by go_simp;(try go_bits);try rfl) ?_;simp only[Act.put,tA0,tA1,tA2])
    refine qbg ?_;go_wp2_with fail
    refine bodyPost_ret (qgh rfl rfl (run_loadVar_mid _ _ 0 _ X _ B9.out Tryz.underlying66 rfl A0.out)) rfl ⟨y,0,?_,fun h=>?_,below_setRow B8.out (by omega) _⟩
    · rw[A5.out,←A8.out]
      rfl
    rw[A5.out]at h;cases h
   |true=>
    obtain rfl:=hd1 hdec;have why:qly c s R=if x.tok<qlx R.op R.leaf.length then 22 else 0:=by
     rw[A1.out,AH.out,A9.out,hdec,←A9.out,AW.out];rfl
    have A5:=zh1 why;clear hd1 hd2 hdec why;obtain⟨A7,Q6,G6,Z6⟩:=zh4 (A6.out.trans (B6.out.mono A6.out.size)) (Q4.out.below B6.out Q4.out.lt) (G4.out.below B6.out G4.out.lt) (Z4.out.below B6.out Z4.out.lt);have H6:=zh1 (H.out.call A7.out);have CT:=zh1 (qpk (m:Int) c s L col k g css w6 H6.out);have c3:w6.cell? ⟨L.tg,m*6+3,none⟩=some (.int .u32 (x.tok:Int)):=H6.out.st.tens.cell ((qmy HX.out (by omega)).trans rfl);have C3:=zh1 c3;clear c3;refine(qrs _ w6).mono ?_;rintro e w7 ⟨rfl,rfl⟩;clear A2 F0 F1 F2 FQ FG;try simp only[Act.put,tA0,tA1,tA2]
    refine qbg ?_;obtain⟨ln,hln⟩:=xeq R.leaf.length;have kop:=(Q6.out.cell 0).trans AF.out;have k47:=(Q6.out.cell 47).trans AO.out;rw[hln]at k47 A5;have BA:=zh1 hln;clear hln;go_wp2_with fail
    refine(qpb R.op (ln:Int) _).mono ?_;rintro e w8 ⟨rfl,rfl⟩;rw[qt4];obtain⟨K,hK⟩:=xeq (qlx R.op ln);rw[hK]at A5 ⊢;have BB:=zh1 hK;clear hK kop k47;have x0:=(G6.out.cell 0).trans X0.out;go_wp2_with fail
    refine CT.out.mono ?_;rintro e w9 ⟨rfl,rfl⟩;rw[if_pos ⟨by omega,by have:=HM.out;omega⟩,Int.toNat_natCast];clear x0;have c3:=C3.out;have AN:=zh1 (qap G6.out 0 X (fun j u h=>by simpa using h));obtain⟨tk,htk⟩:=xeq x.tok;rw[htk]at c3 A5;clear htk;by_cases hlt:tk<K
    ·
     have ql:(tk:Int)<K:=by omega
     have A4:=zh1 (show qly c s R=22 by rw[A5.out,if_pos hlt]);clear hlt;go_wp2_with (first
      |(refine qaq rfl 66 (.tmp 9) rfl G 0 rfl X _ (AN.out) Tryz.underlying66 rfl A0.out ?_)
      |(refine zst 66 (.tmp 4) (.tmp 74) (w.heap.size+1) X (Z6.out) A0.out (by simp[LX.out]) OX.out ?_))
     have A3:=qap ((Z6.out).setRow X.toArray) 0 X (fun j u h=>by simpa using h);refine bodyPost_ret (qgh rfl rfl (run_loadVar_mid _ _ 0 _ X _ A3 Tryz.underlying66 rfl A0.out)) rfl ⟨y,0,?_,fun h=>?_,below_setRow (A7.out) (by omega) _⟩
     · rw[A4.out,←A8.out]
       rfl
     rw[A4.out]at h;cases h
    have ql:¬(tk:Int)<K:=by omega
    have A4:=zh1 (show qly c s R=0 by rw[A5.out,if_neg hlt]);clear hlt;go_wp2_with (first
     |(refine qaq rfl 66 (.tmp 9) rfl G 0 rfl X _ (AN.out) Tryz.underlying66 rfl A0.out ?_)
     |(refine zst 66 (.tmp 4) (.tmp 75) (w.heap.size+1) X (Z6.out) A0.out (by simp[LX.out]) OX.out ?_))
    have A3:=qap (Z6.out.setRow X.toArray) 0 X (fun j u h=>by simpa using h);refine bodyPost_ret (qgh rfl rfl (run_loadVar_mid _ _ 0 _ X _ A3 Tryz.underlying66 rfl A0.out)) rfl ⟨y,K,?_,fun h=>⟨AV.out,by rw[←BB.out,BA.out]⟩,below_setRow A7.out (by omega) _⟩;rw[A4.out,←A8.out];rfl
 have A1:=zh1 (qt6 (c:=c) (s:=s) (R:=R) (by rw[AA.out];exact h0));have qn:((en:Int)==0)=false:=by simp;omega
 obtain⟨y,hyz⟩:∃y:Gra,y=⟨0,0,0,false⟩:=⟨_,rfl⟩;obtain⟨X,hX⟩:=xeq (grav y);have lX:X.length=4:=by rw[←hX];rfl
 have oX:∀u∈X,u.oneCell'=true:=by
  rw[←hX];intro u hu;unfold grav at hu;simp only[List.mem_cons,List.not_mem_nil,or_false]at hu;rcases hu with rfl|rfl|rfl|rfl<;>rfl
 obtain⟨BT,A8,LX,OX⟩:=zh4 (show Tryz.prog.built 66 []=some X.toArray by rw[←hX,hyz];exact qrj) hX lX oX;have A0:=zh1 (zI 66 LX.out);clear hX lX oX h0 hyz;go_wp2_with (first
  |(refine qbk rfl ⟨.agg X.toArray,qfq 66 _ rfl _ _ BT.out (by simp[Act.eval]),?_⟩)
  |(refine zst 66 (.tmp 4) (.tmp 22) (w.heap.size+1) X Z1.out A0.out (by simp[LX.out]) OX.out ?_))
 have A3:=qap ((Z1.out).setRow X.toArray) 0 X (fun j u h=>by simpa using h);refine bodyPost_ret (qgh rfl rfl (run_loadVar_mid _ _ 0 _ X _ A3 Tryz.underlying66 rfl A0.out)) rfl ⟨y,0,?_,fun h=>?_,below_setRow (AB.out) (by omega) _⟩
 · rw[A1.out,←A8.out]
   rfl
 rw[A1.out]at h;cases h
end
end Go.Proofs.YthomgopipiomhaaGreatDoor
