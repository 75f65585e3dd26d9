/- Lemmas. -/
import Derived.Test.YthomgopipiomhaaGreatDoorBMA09
namespace Go.Proofs.YthomgopipiomhaaGreatDoor
open Go.RowKit
set_option linter.unusedVariables false
set_option linter.unusedSimpArgs false
set_option maxRecDepth 100000
set_option maxHeartbeats 32000000
theorem Sta.tree_some {s:Sta}{n:Int}{t:Tre}(h:s.tree n=some t):0≤n∧s.tres[n.toNat]? =some t∧t.state≠0∧t.state≠4:=by
 unfold Sta.tree at h;split at h
 ·
  rename_i h0
  split at h
  · cases h
  rename_i x hx
  split at h
  · cases h
  rename_i hne
  injection h with h;subst h;exact⟨h0,hx,fun e=>hne (.inl e),fun e=>hne (.inr e)⟩
 cases h
theorem Sta.tenant_some {s:Sta}{n:Int}{x:Ten}(h:s.tenant n=some x):0≤n∧s.tens[n.toNat]? =some x:=by
 unfold Sta.tenant at h;split at h
 · exact⟨by assumption,h⟩
 cases h
theorem Sta.Ok.tenant_lt {s:Sta}(hs:s.Ok){n:Int}{x:Ten}(h:s.tenant n=some x):0≤n∧n<16:=by
 obtain⟨h0,h1⟩:=Sta.tenant_some h;obtain⟨h2,_⟩:=tA8 h1;rw[hs.tensn]at h2;omega
theorem qrb (R:Req)(h:∀x∈R.leaf,x<256):∀(l:List Fld) (acc:List Nat),(∀x∈acc,x<256)→∀x∈(qhy R l acc).2,x<256
 |[],acc,ha=>by simpa [qhy] using ha
 |f::l,acc,ha=>by
  rw[qhy];split
  ·
   refine qrb R h l _ (fun x hx=>?_);rcases List.mem_append.1 hx with h1|h1
   · exact ha x h1
   unfold fldB at h1;split at h1
   · exact qaz _ _ x h1
   unfold txt at h1;rcases List.mem_append.1 h1 with h2|h2
   · exact qaz _ _ x h2
   exact h x (tB7 h2)
  intro x hx;cases hx
theorem qrc (R:Req)(h:∀x∈R.leaf,x<256):∀x∈(qhz R).2,x<256:=by
 unfold qhz;split
 · intro x hx;cases hx
 exact qrb R h _ _ (qaz _ _)
theorem qrd (R:Req):∀(l:List Fld) (acc:List Nat),(∀f∈l,(f.2.1=1∨f.2.1=2∨f.2.1=3)∧f.1≤8)→(qhy R l acc).2.length≤acc.length+8*l.length
 |[],acc,_=>by simp[qhy]
 |f::l,acc,hf=>by
  obtain⟨h1,h2⟩:=hf f zm;rw[qhy];split
  · have h3:=qrd R l (acc++fldB R f) (fun g hg=>hf g (by simp[hg]))
    have e:(fldB R f).length=f.1:=by unfold fldB;rw[if_pos h1,qaw]
    rw[tA6,e]at h3;rw[tBi];omega
  simp
theorem qre (R:Req)(h:ql4 R.op=true):(qhz R).2.length≤33:=by
 have h:=of_decide_eq_true h;have h1:∃l:List Fld,fieldsOf R.op=some l∧l.length≤4∧∀f∈l,(f.2.1=1∨f.2.1=2∨f.2.1=3)∧f.1≤8:=by
  have h2:R.op=6∨R.op=7∨R.op=8∨R.op=9∨R.op=10∨R.op=11∨R.op=12:=zo;rcases h2 with e|e|e|e|e|e|e<;>rw[e]<;>exact⟨_,rfl,by decide,by decide⟩
 obtain⟨l,hl,h4,hf⟩:=h1;unfold qhz;rw[hl];have h3:=qrd R l (be R.op.toNat 1) hf;rw[qaw]at h3;simp only;omega
theorem qrf (s:Sta)(r:Req)(hr:r.Good)(ha:ql4 r.op=true):LeafOk (qmx s r):=by
 unfold qmx;constructor
 · have:=qre r ha
   simp only[tA6,qaw];omega
 intro x hx;rcases List.mem_append.1 hx with h|h
 · exact qaz _ _ x h
 rcases List.mem_append.1 h with h|h
 · exact qaz _ _ x h
 exact qrc r hr.leafb x h
theorem qrg (R:Req):∀(l:List Fld) (acc:List Nat),(qhy R l acc).1=0→∀f∈l,qhx R f=0
 |[],_,_=>by simp
 |g::l,acc,h=>by
  rw[qhy]at h;split at h
  · rename_i hg
    intro f hf;rcases List.mem_cons.1 hf with rfl|hf
    · exact hg
    exact qrg R l _ h f hf
  rename_i hg
  exact absurd h hg
theorem qrh {R:Req}(h:(qit R).1=0):(qhz R).1=0:=by
 unfold qit at h;split at h
 · assumption
 rename_i hne
 exact absurd h hne
theorem qri {R:Req}(h:(qit R).1=0):∃l,fieldsOf R.op=some l∧∀f∈l,qhx R f=0:=by
 have hb:=qrh h;unfold qhz at hb;split at hb
 · cases hb
 rename_i l hl
 exact⟨l,hl,qrg R l _ hb⟩
theorem qrj {R:Req}(h:(qit R).1=0):1≤R.op∧R.op≤12:=by
 obtain⟨l,hl,_⟩:=qri h;have:=qi5 R.op l hl;omega
theorem qrk {R:Req}(h:(qit R).1=0)(e:R.op=1):R.leaf.length≤256:=by
 obtain⟨l,hl,hf⟩:=qri h;rw[e,show fieldsOf 1=some [(1,1,35),(0,0,0)] from rfl]at hl;injection hl with hl;subst hl;have h0:=hf (0,0,0) zm;unfold qhx at h0;simp at h0;omega
theorem qrl {R:Req}(h:(qit R).1=0){l:List Fld}(hl:fieldsOf R.op=some l){o:Nat}(ho:(1,1,o)∈l):0≤R.num o∧R.num o≤255:=by
 obtain⟨l',hl',hf⟩:=qri h;rw[hl]at hl';injection hl' with hl';subst hl';have h0:=hf _ ho;unfold qhx at h0;simp at h0;omega
theorem qrm {f t w:Int}(h:mayB f t w=true):t=1∨t=2∨t=3∨t=4:=by
 unfold mayB at h;split at h
 · simp at h;omega
 split at h
 · simp at h;omega
 split at h
 · simp at h;omega
 cases h
theorem qrn {c:Cfg}{s:Sta}{r:Req}{t:Tre}(hs:s.Ok)(hr:r.Good)(hl:r.leaf.length≤256)(ht:s.tree r.tree=some t):(qmn c s r t).1.Ok:=by
 obtain⟨h0,h1,h2,h3⟩:=Sta.tree_some ht;unfold qmn;split
 · exact hs
 rename_i hne
 split
 · exact hs
 split
 · exact hs
 split
 · exact hs
 rename_i hq
 split
 · exact hs
 rename_i x hx
 split
 · exact hs
 refine(hs.setX (n:=t.tenant.toNat) (f:=fun x=>{x with used:=(x.used+(r.leaf.length+16)) % 4294967296}) (fun y hy o=>{o with used:=Nat.mod_lt _ zdc})).setT (fun y hy o=>?_) (fun e=>absurd e zo);have e:y=t:=by
  have h4:s.tres[r.tree.toNat]? =some y:=hy;rw[h1]at h4;injection h4 with h4;exact h4.symm
 subst e;have q1:(y.queue++[r.leaf]).length≤64:=by
  rw[tA6,List.length_singleton];omega
 have q2:y.leaves.length+(y.queue++[r.leaf]).length≤1024:=by
  rw[tA6,List.length_singleton];omega
 have q3:∀b∈y.queue++[r.leaf],LeafOk b:=by
  intro b hb;rcases List.mem_append.1 hb with h|h
  · exact o.queueb b h
  obtain rfl:=List.mem_singleton.1 h;exact⟨by omega,hr.leafb⟩
 exact {o with queue:=q1,leaves:=q2,queueb:=q3}
theorem qro {c:Cfg}{s:Sta}{r:Req}{t:Tre}(hs:s.Ok)(ht:s.tree r.tree=some t):(qmq c s r t).1.Ok:=by
 obtain⟨h0,h1,h2,h3⟩:=Sta.tree_some ht;unfold qmq;split
 · exact hs
 rename_i hne
 have hn:r.tree≠0:=fun e=>hne (.inl e)
 have hm:mayB t.state r.state t.queue.length=true:=by
  cases h:mayB t.state r.state t.queue.length with
  |true=>rfl
  |false=>exact absurd (.inr (by rw[h];rfl)) hne
 have hst:=qrm hm;have hs1:(if r.state=4 then s.setX t.tenant.toNat (fun x=>{x with used:=x.used - qmf t.queue}) else s).Ok:=by
  split
  · exact hs.setX fun x _ o=>{o with used:=by have:=o.used;show x.used - _<_;omega}
  exact hs
 have e1:(if r.state=4 then s.setX t.tenant.toNat (fun x=>{x with used:=x.used - qmf t.queue}) else s).tres=s.tres:=by split<;>rfl
 refine hs1.setT (fun y hy o=>?_) (fun e=>absurd e zo);rw[e1,h1]at hy;injection hy with hy;subst hy;have hq:=o.queue;have hl:=o.leaves;exact {o with
  state:=by show 0≤r.state∧r.state≤4;omega
  live:=fun _=>o.live h2
  deficit:=by
   dsimp only;split
   · rfl
   exact o.deficit
  queue:=by
   dsimp only;split
   · simp
   exact hq
  leaves:=by
   dsimp only;split
   · simp;omega
   exact hl
  queueb:=by
   dsimp only;split
   · simp
   exact o.queueb}
theorem qrp {s:Sta}{r:Req}{t:Tre}(hs:s.Ok)(ht:s.tree r.tree=some t):(qmr s r).1.Ok:=by
 obtain⟨h0,h1,h2,h3⟩:=Sta.tree_some ht;unfold qmr;split
 · exact hs
 rename_i hn
 split
 · exact hs
 rename_i hw
 refine hs.setT (fun y hy o=>?_) (fun e=>absurd e zo);exact {o with weight:=by show 0≤r.weight∧r.weight≤4;omega,live:=fun h=>⟨by show 1≤r.weight;omega,(o.live h).2⟩,deficit:=rfl}
theorem qrq {s:Sta}(hs:s.Ok){n:Nat}{t:Tre}(ht:s.tres[n]? =some t)(hd:t.draws.length<32):(s.setT n fun t=>{t with draws:=t.draws++[s.draw]}).Ok:=by
 refine hs.setT (fun y hy o=>?_) (fun _ y _ h1 h2=>⟨h1,h2⟩);rw[ht]at hy;injection hy with hy;subst hy;exact {o with
  live:=fun h=>⟨(o.live h).1,by simp⟩
  draws:=by simp;omega
  drawb:=fun x hx=>by
   rcases List.mem_append.1 hx with h|h
   · exact o.drawb x h
   obtain rfl:=List.mem_singleton.1 h;exact hs.draw}
theorem qrr {c:Cfg}{s:Sta}{r:Req}{t:Tre}(hs:s.Ok)(ht:s.tree r.tree=some t):(qms c s r t).1.Ok:=by
 obtain⟨h0,h1,h2,h3⟩:=Sta.tree_some ht;obtain⟨h4,_⟩:=tA8 h1;rw[hs.tresn]at h4;unfold qms;split
 · exact hs
 rename_i hd
 exact(qrq hs h1 zo).pub c h4
theorem qrs {s:Sta}(hs:s.Ok){tn wg:Int}(h1:0≤tn∧tn<16)(h2:1≤wg∧wg≤4):({Tre.zero with state:=1,tenant:=tn,weight:=wg,draws:=[s.draw]}:Tre).Ok:=
 {Tre.zero_ok with
  state:=by show (0:Int)≤1∧(1:Int)≤4;decide
  tenant:=h1
  weight:=by show 0≤wg∧wg≤4;omega
  live:=fun _=>⟨h2.1,by simp⟩
  draws:=by simp
  drawb:=fun x hx=>by
   obtain rfl:=List.mem_singleton.1 hx;exact hs.draw}
theorem qrt {c:Cfg}{s:Sta}{r:Req}(hs:s.Ok):(qmp c s r).1.Ok:=by
 unfold qmp;split
 · exact hs
 rename_i hn
 have hn16:=hs.tresn;split
 · exact hs
 split
 · exact hs
 split
 · exact hs
 rename_i x hx
 split
 · exact hs
 refine Sta.Ok.pub (hs.setT (fun y hy o=>?_) (fun e=>absurd e zo)) c zo;exact qrs hs (hs.tenant_lt hx) zo
theorem qru {c:Cfg}{s:Sta}{r:Req}(hs:s.Ok)(hr:r.Good):(qmt c s r).1.Ok:=by
 unfold qmt;split
 · exact hs
 rename_i hn
 split
 · exact hs
 rename_i x hx
 split
 · exact hs
 split
 · exact hs
 rename_i hg
 refine {hs with grasn:=by simp;omega,gras:=fun g h=>?_,owner:=?_}
 · rcases List.mem_append.1 h with h|h
   · exact hs.gras g h
   obtain rfl:=List.mem_singleton.1 h;exact⟨hs.tenant_lt hx,by show 1≤r.role∧r.role≤4;omega,hr.expires⟩
 have h0:=hs.owner;obtain⟨h1,_⟩:=tA8 h0;show (s.gras++_)[0]? =_;rw[tBm h1];exact h0
theorem qrv {s:Sta}{r:Req}(hs:s.Ok):(qmu s r).1.Ok:=by
 unfold qmu;split
 · exact hs
 split
 · exact hs
 rename_i hn
 refine {hs with grasn:=by simpa using hs.grasn,gras:=qo1 hs.gras fun x _ o=>{o with},owner:=?_};show (s.gras.modify r.id _)[0]? =_;rw[qo7 _ _ zo];exact hs.owner
theorem qrw {s:Sta}{r:Req}(hs:s.Ok)(hr:r.Good):(qmv s r).1.Ok:=by
 unfold qmv;split
 · exact hs
 split
 · exact hs
 rename_i hn
 split
 · exact hs
 exact hs.setX fun y hy o=>{o with rate:=by show r.rate≤_;omega,burst:=by show r.burst≤_;omega,tok:=tA4 _,store:=hr.store}
theorem qrx {c:Cfg}{s:Sta}{r:Req}(hs:s.Ok)(hr:r.Good)(hl:r.op=1→r.leaf.length≤256):(qmw c s r).1.Ok:=by
 unfold qmw;split
 · exact qrt hs
 split
 · exact qru hs hr
 split
 · exact qrv hs
 split
 · exact qrw hs hr
 split
 · exact hs
 rename_i t ht
 split
 · rename_i h1
   exact qrn hs hr (hl h1) ht
 split
 · exact qro hs ht
 split
 · exact qrp hs ht
 split
 · exact qrr hs ht
 exact hs
theorem qry {α β:Type}(g:α→β)(f:α→α)(l:List α)(n j:Nat)(hf:n=j→∀x,l[j]? =some x→g (f x)=g x):((l.modify n f)[j]?).map g=(l[j]?).map g:=by
 by_cases e:n=j
 · subst e
   cases h:l[n]? with
   |none=>rw[List.getElem?_modify,h];rfl
   |some x=>rw[qo6 f h];simp[hf rfl x h]
 rw[qo7 l f e]
theorem Sta.setT_leaves (s:Sta)(n:Nat)(f:Tre→Tre)(hf:n=0→∀t,(f t).leaves=t.leaves):(s.setT n f).tres[0]?.map (·.leaves)=s.tres[0]?.map (·.leaves):=
 qry _ _ _ _ _ fun e x _=>hf e x
theorem Sta.pub_leaves (c:Cfg)(s:Sta)(n:Nat):(s.pub c n).tres[0]?.map (·.leaves)=s.tres[0]?.map (·.leaves):=
 qry _ _ _ _ _ fun e x _=>rfl
theorem qrz {c:Cfg}{s:Sta}{r:Req}(ha:ql4 r.op=true):(qmw c s r).1.tres[0]?.map (·.leaves)=s.tres[0]?.map (·.leaves):=by
 have h6:=of_decide_eq_true ha;unfold qmw;split
 ·
  unfold qmp;split
  · rfl
  split
  · rfl
  split
  · rfl
  split
  · rfl
  split
  · rfl
  rw[Sta.pub_leaves];exact Sta.setT_leaves _ _ _ fun e=>absurd e zo
 split
 ·
  unfold qmt;split
  · rfl
  split
  · rfl
  split
  · rfl
  split<;>rfl
 split
 · unfold qmu
   split
   · rfl
   split<;>rfl
 split
 ·
  unfold qmv;split
  · rfl
  split
  · rfl
  split<;>rfl
 split
 · rfl
 rename_i t ht
 split
 · omega
 split
 ·
  unfold qmq;split
  · rfl
  simp only;refine Eq.trans (Sta.setT_leaves _ _ _ ?_) ?_
  · intro _ _
    rfl
  split<;>rfl
 split
 ·
  unfold qmr;split
  · rfl
  split
  · rfl
  refine Sta.setT_leaves _ _ _ ?_;intro _ _;rfl
 split
 ·
  unfold qms;split
  · rfl
  simp only;rw[Sta.pub_leaves];refine Sta.setT_leaves _ _ _ ?_;intro _ _;rfl
 rfl
theorem qs0 {c:Cfg}{s:Sta}{r:Req}(h:qmk c s r=0):(qit r).1=0:=by
 unfold qmk at h;split at h
 · cases h
 rename_i h0
 omega
theorem qs1 {s:Sta}{r:Req}(hs:s.Ok)(hr:r.Good)(ha:ql4 r.op=true)(h:∀t,s.tres[0]? =some t→t.leaves.length<1024)(ls:Sta):(s.setT 0 fun t=>{t with leaves:=t.leaves++[qmx ls r]}).Ok:=by
 obtain⟨t,h1,h2,h3⟩:=hs.first;refine hs.setT (fun y hy o=>?_) (fun _ y _ h4 h5=>⟨h4,h5⟩);have e:y=t:=by
  rw[h1]at hy;injection hy with hy;exact hy.symm
 subst e;have h6:=h y h1;exact {o with
  leaves:=by simp[h3];omega
  leafb:=fun b hb=>by
   rcases List.mem_append.1 hb with h|h
   · exact o.leafb b h
   obtain rfl:=List.mem_singleton.1 h;exact qrf _ r hr ha
  hds:=by have:=o.hds;simp;omega}
theorem qs2 {s s':Sta}(he:s'.tres[0]?.map (·.leaves)=s.tres[0]?.map (·.leaves))(h:(s.tres[0]?.getD Tre.zero).leaves.length<1024):∀t,s'.tres[0]? =some t→t.leaves.length<1024:=by
 intro t ht;rw[ht]at he;cases h0:s.tres[0]? with
 |none=>rw[h0]at he;cases he
 |some x=>
  rw[h0]at he h;simp at he h;rw[he];exact h
theorem qs3 {c:Cfg}{s:Sta}{r:Req}(hs:s.Ok)(hr:r.Good):(doS c s r).1.Ok:=by
 unfold doS;split
 · exact hs
 rename_i hm
 have hm0:qmk c s r=0:=zo;have henc:=qs0 hm0;have h1:=qrx (c:=c) hs hr (qrk henc);have h0:ql4 r.op=true→_:=fun ha=>qrz (c:=c) (s:=s) ha
 obtain⟨s1,a,h⟩:∃s1 a,qmw c s r=(s1,a):=⟨_,_,rfl⟩;rw[h]at h1 h0 ⊢;simp only at h1 h0 ⊢;split
 · exact hs
 split
 · exact hs
 rename_i hl
 split
 · exact hs
 have h2:=h1.setX (n:=(((s.gras[r.tid]?).getD ⟨0,0,0,false⟩).tenant).toNat) (f:=fun x=>{x with tok:=x.tok - qmj r.op r.leaf.length}) (fun x _ o=>{o with tok:=by have:=o.tok;show x.tok - _≤x.burst;omega});split
 · rename_i ha
   refine(qs1 h2 hr ha (qs2 (s:=s) (h0 ha) ?_) _).pub c zdc;rw[ha]at hl;simp at hl;exact hl
 exact h2
theorem qs4 {c:Cfg}{s:Sta}{bs:List Nat}{y:Nat × Nat}(h:(qie bs).1=some y):askS c s bs=(s,(qis (rWhy 12)).2):=by
 unfold askS;rw[h]
theorem qs5 {c:Cfg}{s:Sta}{bs:List Nat}(h:(qie bs).1=none):askS c s bs=((doS c s (qie bs).2).1,(qis (doS c s (qie bs).2).2).2):=by
 unfold askS;rw[h]
theorem qs6 {c:Cfg}{s:Sta}{bs:List Nat}(hs:s.Ok)(hr:(qie bs).2.Good):(askS c s bs).1.Ok:=by
 cases h:(qie bs).1 with
 |some y=>
  rw[qs4 h];exact hs
 |none=>
  rw[qs5 h];dsimp only;exact qs3 hs hr
theorem qs7 {s:Sta}{n:Nat}(hs:s.Ok)(hn:n<4294967296):(qmz s n).Ok:={hs with draw:=hn}
theorem qs8 {s:Sta}(hs:s.Ok):(qmy s).Ok:=by
 refine {hs with clock:=?_,tensn:=by simpa [qmy] using hs.tensn,tens:=fun x hx=>?_}
 · have:=hs.clock
   unfold qmy;dsimp only;split<;>omega
 obtain⟨y,hy,rfl⟩:=List.mem_map.1 hx;have o:=hs.tens y hy;split
 · exact {o with tok:=by have:=o.tok;dsimp only;split<;>omega}
 exact o
theorem qs9 {ws:List Int}{a n:Nat}(h:qn1 ws a=some n):n<ws.length∧1≤ws.getD n 0:=by
 unfold qn1 at h;have h1:=List.find?_some h;simp at h1;refine⟨?_,by simpa [tB4] using h1⟩;rcases Nat.lt_or_ge n ws.length with h2|h2
 · exact h2
 rw[List.getElem?_eq_none h2]at h1;simp at h1
theorem qsa {s:Sta}{a n:Nat}(h:qn1 (s.tres.mapIdx fun i t=>qn3 i t) a=some n):n≠0∧∃t,s.tres[n]? =some t∧qkm t.state=true∧1≤t.weight:=by
 obtain⟨h1,h2⟩:=qs9 h;rw[List.length_mapIdx]at h1;rw[tB4,List.getElem?_mapIdx,tA7 h1]at h2;simp only[Option.map_some,Option.getD_some]at h2;unfold qn3 at h2;split at h2
 · omega
 rename_i h3
 refine⟨fun e=>h3 (.inl e),_,tA7 h1,?_,h2⟩;cases h4:qkm (s.tres[n]).state with
 |true=>rfl
 |false=>exact absurd (.inr (by rw[h4];rfl)) h3
theorem qsb {t:Tre}(o:t.Ok){q:Int}(take:Nat)(d:Int)(hd:d=t.deficit+min t.weight 4*min (max q 1) 2)(ht:take=(max (min d t.queue.length) 0).toNat):
 ({t with deficit:=if t.queue.drop take=[] then 0 else d - take,leaves:=t.leaves++t.queue.take take,queue:=t.queue.drop take}:Tre).Ok:=by
 have hl:=o.leaves;have hq:=o.queue;have hw:=o.weight;have h0:0≤d:=by
  rw[hd,o.deficit,Int.zero_add];exact Int.mul_nonneg zo zo
 exact {o with
  deficit:=by
   dsimp only;split
   · rfl
   rename_i h
   have:take<t.queue.length:=by
    rcases Nat.lt_or_ge take t.queue.length with h1|h1
    · exact h1
    exact absurd (List.drop_of_length_le h1) h
   omega
  leaves:=by
   show (t.leaves++t.queue.take take).length+(t.queue.drop take).length≤1024;simp only[tA6,tBd,tBk];omega
  leafb:=fun b hb=>by
   rcases List.mem_append.1 hb with h|h
   · exact o.leafb b h
   exact o.queueb b (tB7 h)
  queue:=by
   show (t.queue.drop take).length≤64;simp only[tBk];omega
  queueb:=fun b hb=>o.queueb b (List.mem_of_mem_drop hb)
  hds:=by
   have:=o.hds;show t.hd.size≤(t.leaves++t.queue.take take).length;rw[tA6];omega}
def takeN (c:Cfg)(t:Tre):Nat:=(max (min (t.deficit+min t.weight 4*min (max c.quantum 1) 2) t.queue.length) 0).toNat
def seqT (c:Cfg)(t:Tre):Tre:=
 {t with deficit:=if t.queue.drop (takeN c t)=[] then 0 else t.deficit+min t.weight 4*min (max c.quantum 1) 2 - takeN c t,leaves:=t.leaves++t.queue.take (takeN c t),queue:=t.queue.drop (takeN c t)}
theorem qsc {s:Sta}(hs:s.Ok):(if 0≤s.lane∧s.lane<s.tres.length then s.lane.toNat else 0)=s.lane.toNat:=by
 have hl:=hs.lane;exact if_pos ⟨hl.1,by rw[hs.tresn];omega⟩
theorem qsd {c:Cfg}{s:Sta}(hs:s.Ok)(h:qn1 (s.tres.mapIdx fun i t=>qn3 i t) s.lane.toNat=none):seqS c s=s:=by
 unfold seqS;dsimp only;rw[qsc hs,h];have hl:=hs.lane;dsimp only;rw[Int.toNat_of_nonneg hl.1]
theorem qse {s s1:Sta}(e:s1.tres=s.tres){k:Nat}{t:Tre}(ht:s.tres[k]? =some t)(f:Tre→Tre):s1.setT k f=s1.setT k fun _=>f t:=by
 unfold Sta.setT;rw[qr7 (f:=f) (g:=fun _=>f t) (fun x hx=>by
  rw[e,ht]at hx;injection hx with hx;rw[hx])]
theorem qsf {c:Cfg}{s:Sta}(hs:s.Ok){k:Nat}{t:Tre}(h:qn1 (s.tres.mapIdx fun i t=>qn3 i t) s.lane.toNat=some k)(ht:s.tres[k]? =some t):
 seqS c s=if takeN c t=0 then({s with lane:=(((k+1) % 16:Nat):Int)}:Sta).setT k (fun _=>seqT c t) else(({s with lane:=(((k+1) % 16:Nat):Int)}:Sta).setT k (fun _=>seqT c t)).pub c k:=by
 unfold seqS;dsimp only;rw[qsc hs,h];dsimp only;rw[ht,hs.tresn];simp only[Option.getD_some];rw[qse (s:=s) (s1:={s with lane:=(((k+1) % 16:Nat):Int)}) rfl ht];rfl
theorem qsg {c:Cfg}{s:Sta}(hs:s.Ok):(seqS c s).Ok:=by
 rcases h:qn1 (s.tres.mapIdx fun i t=>qn3 i t) s.lane.toNat with _|n
 · rw[qsd hs h]
   exact hs
 obtain⟨h0,t,ht,hr,hw⟩:=qsa h;obtain⟨h1,_⟩:=tA8 ht;have h16:=hs.tresn;have hl1:(0:Int)≤(((n+1) % 16:Nat):Int)∧(((n+1) % 16:Nat):Int)<16:=zo;have hs1:({s with lane:=(((n+1) % 16:Nat):Int)}:Sta).Ok:={hs with lane:=hl1};have hs2:=hs1.setT (n:=n) (f:=fun _=>seqT c t) (fun y hy o=>qsb (hs.tre ht) (q:=c.quantum) _ _ rfl rfl) (fun e=>absurd e h0);rw[qsf hs h ht];split
 · exact hs2
 exact hs2.pub c zo
theorem qsh {c:Cfg}:(newS c).Ok:=by
 refine Sta.Ok.pub (n:=0) ?_ c zdc;exact {
  clock:=by decide
  draw:=by decide
  lane:=by decide
  tensn:=rfl
  tresn:=rfl
  grasn:=by decide
  tens:=fun x hx=>by
   rcases List.mem_cons.1 hx with rfl|h
   · exact⟨by decide,by decide,by decide,by decide,by decide⟩
   rw[List.eq_of_mem_replicate h];exact Ten.zero_ok
  tres:=fun x hx=>by
   rcases List.mem_cons.1 hx with rfl|h
   · exact {Tre.zero_ok with state:=by show (0:Int)≤1∧(1:Int)≤4;decide,weight:=by show (0:Int)≤1∧(1:Int)≤4;decide,live:=fun _=>⟨by show (1:Int)≤1;decide,by simp⟩,draws:=by simp,drawb:=fun x hx=>by obtain rfl:=List.mem_singleton.1 hx;decide}
   rw[List.eq_of_mem_replicate h];exact Tre.zero_ok
  gras:=fun x hx=>by
   obtain rfl:=List.mem_singleton.1 hx;exact⟨by decide,by decide,by decide⟩
  owner:=rfl
  first:=⟨_,rfl,rfl,rfl⟩}
structure Rest (w:World)(col:Col)(w':World)(col':Col):Prop where
 os:w'.os=w.os
 tape:w'.tape=w.tape
 output:w'.output=w.output
 size:w.heap.size≤w'.heap.size
 block:∀b,b<w.heap.size→col b=0→w'.heap[b]? =w.heap[b]? ∧col' b=0
section
variable {w w' w'' : World} {col col' col'' : Col} {p : Nat → Bool}
theorem Rest.trans (h:Rest w col w' col')(h':Rest w' col' w'' col''):Rest w col w'' col'':=
 ⟨h'.os.trans h.os,h'.tape.trans h.tape,h'.output.trans h.output,tB1 h.size h'.size,fun b hb hc=>by
  obtain⟨h1,h2⟩:=h.block b hb hc;obtain⟨h3,h4⟩:=h'.block b (tB0 hb h.size) h2;exact⟨h3.trans h1,h4⟩⟩
theorem Rest.of_turns (h:Turns p w col w' col')(h0:p 0=false):Rest w col w' col':=
 ⟨h.os,h.tape,h.output,h.size,fun b hb hc=>⟨h.block b hb (by rw[hc];exact h0),(h.same b hb).trans hc⟩⟩
theorem Rest.of_below (hb:Below w.heap.size w w'):Rest w col w' col:=⟨hb.os,hb.tape,hb.output,hb.size,fun b h hc=>⟨hb.block b h,hc⟩⟩
theorem Rest.below {B:Nat}(h:Rest w col w' col')(hc:∀b,b<B→col b=0)(hB:B≤w.heap.size):Below B w w'∧∀b,b<B→col' b=0:=
 ⟨⟨h.os,h.tape,h.output,h.size,fun b hb=>(h.block b (tB0 hb hB) (hc b hb)).1⟩,fun b hb=>(h.block b (tB0 hb hB) (hc b hb)).2⟩
theorem Rest.blk {b:Nat}{t:TypeId}{cs:Array Value}(h:Rest w col w' col')(hb:Blk w b t cs)(hc:col b=0):Blk w' b t cs:=(h.block b hb.lt hc).1.trans hb
theorem Rest.reads {size n:Nat}{A:Option Addr}{xs:List Value}(h:Rest w col w' col')(hr:Reads w w.heap.size size A n xs)(h0:0<n→∀ad,A=some ad→col ad.block=0):Reads w' w'.heap.size size A n xs:=by
 refine⟨hr.1,fun hn=>?_⟩;obtain⟨ad,e,hb,hc⟩:=hr.2 hn;refine⟨ad,e,tB0 hb h.size,fun j u hu=>?_⟩;refine(World.cell?_of_block ?_).trans (hc j u hu);rw[qa1];exact(h.block _ hb (h0 hn ad e)).1
theorem qsi {base n size:Nat}{e:TypeId}{v:Value}{xs:List Value}(h:w.ownsRow base e size v n xs)(hn:0<n):
 ∃g c,v=.slice (some ⟨g,0,none⟩) n c∧base≤g∧g<w.heap.size∧(∃cs,Blk w g e cs)∧∀(col:Col) (k:Nat),col g=k→TopAt w col k e g c size n xs:=by
 obtain⟨h1,h2⟩:=h;rcases h2 with⟨rfl,rfl⟩|⟨g,cap,cur,rfl,hb,hg,hn',hc,hs,ht⟩
 · omega
 have hb':Blk w g e cur.toList.toArray:=by simpa [Blk] using hg
 refine⟨g,cap,rfl,hb,hb'.lt,⟨_,hb'⟩,fun col k hk=>⟨hk,cur.toList.drop (n*size),?_,h1,hn',hc,?_⟩⟩
 · have:xs++cur.toList.drop (n*size)=cur.toList:=by rw[←ht];exact List.take_append_drop _ _
   rw[this];exact hb'
 have hl:n*size≤cap*size:=Nat.mul_le_mul_right _ hn';rw[h1,tBk,Array.length_toList,hs];omega
theorem TopAt.recol {k k':Nat}{e:TypeId}{g c size n:Nat}{xs:List Value}(h:TopAt w col k e g c size n xs)(hk:∀b,col b=k→col' b=k'):TopAt w col' k' e g c size n xs:=⟨hk g h.1,h.2⟩
theorem RowC.recol {k k':Nat}{v:Value}{e:TypeId}{size n:Nat}{xs:List Value}(h:RowC w col k v e size n xs)(hk:∀b,col b=k→col' b=k'):RowC w col' k' v e size n xs:=by
 refine⟨h.1,?_⟩;rcases h.2 with h0|⟨g,o,c,cur,e1,hc,rest⟩
 · exact .inl h0
 exact .inr ⟨g,o,c,cur,e1,hk g hc,rest⟩
theorem TextC.recol {v:Value}{bs:List Nat}(h:TextC w col v bs)(hk:∀b,col b=5→col' b=5):TextC w col' v bs:=by
 obtain⟨A,n,c,e,h1,h2,h3,h4⟩:=h;exact⟨A,n,c,e,h1,h2,h3,fun h0=>by obtain⟨ad,h5,h6⟩:=h4 h0;exact⟨ad,h5,hk _ h6⟩⟩
theorem TextsC.recol {k k':Nat}{v:Value}{ls:List (List Nat)}(h:TextsC w col k v ls)(hk:∀b,col b=k→col' b=k')(h5:∀b,col b=5→col' b=5):TextsC w col' k' v ls:=by
 obtain⟨vs,h1,h2⟩:=h;exact⟨vs,h1.recol hk,fun i bs hi=>by obtain⟨u,h3,h4⟩:=h2 i bs hi;exact⟨u,h3,h4.recol h5⟩⟩
theorem TrsAt.recol {css:List (List Value)}{l:List Tre}(h:TrsAt w col css l)(hk:∀k,k=5∨10≤k→∀b,col b=k→col' b=k):TrsAt w col' css l:=
 ⟨h.1,fun i t ht=>by
  obtain⟨cs,h1,vd,vl,vq,e,r1,r2,r3⟩:=h.2 i t ht;exact⟨cs,h1,vd,vl,vq,e,r1.recol (hk _ (.inr zo)),r2.recol (hk _ (.inr zo)) (hk _ (.inl rfl)),r3.recol (hk _ (.inr zo)) (hk _ (.inl rfl))⟩⟩
theorem StAt.recol {tt rt gt:TypeId}{k k':Nat}{L:Loc}{css:List (List Value)}{s:Sta}(h:StAt tt rt gt w col k L css s)(h0:∀b,col b=k→col' b=k')(h1:∀b,col b=k+1→col' b=k'+1)(h2:∀b,col b=k+2→col' b=k'+2)(hk:∀k,k=5∨10≤k→∀b,col b=k→col' b=k):StAt tt rt gt w col' k' L css s:=
 ⟨h.tens.recol h0,h.tres.recol h1,h.gras.recol h2,h.trs.recol hk⟩
def Col.back (col:Col):Col:=fun b=>if col b=6 then 2 else if col b=7 then 3 else if col b=8 then 4 else if col b=2∨col b=3∨col b=4 then 0 else col b
theorem Col.back_0 {b:Nat}(h:col b=0):col.back b=0:=by unfold Col.back;rw[h];simp
theorem Col.back_1 {b:Nat}(h:col b=1):col.back b=1:=by unfold Col.back;rw[h];simp
theorem Col.back_5 {b:Nat}(h:col b=5):col.back b=5:=by unfold Col.back;rw[h];simp
theorem Col.back_big {b k:Nat}(h:col b=k)(hk:10≤k):col.back b=k:=by
 unfold Col.back;rw[h,if_neg zo,if_neg zo,if_neg zo,if_neg zo]
theorem Col.back_ne {b:Nat}(h:col.back b≠0):col b≠0:=fun e=>h (Col.back_0 e)
theorem Mdl.back {g:Nat}{c:Cfg}{s:Sta}{L:Loc}{css:List (List Value)}(h:Mdl w col 6 g c s L css):Mdl w col.back 2 g c s L css:=
 ⟨h.blk,Col.back_1 h.own,⟨h.base.1,fun b hb=>Col.back_0 (h.base.2 b hb)⟩,fun b hb=>h.fin b (Col.back_ne hb),h.seed.recol (fun b hb=>Col.back_5 hb),
  h.st.recol (fun b hb=>by unfold Col.back;rw[hb];rfl) (fun b hb=>by unfold Col.back;rw[hb];rfl) (fun b hb=>by unfold Col.back;rw[hb];rfl) (fun k hk b hb=>by rcases hk with rfl|hk;exact Col.back_5 hb;exact Col.back_big hb hk)⟩
theorem Rest.back (h:Rest w col w' col'):Rest w col w' col'.back:=⟨h.os,h.tape,h.output,h.size,fun b hb hc=>⟨(h.block b hb hc).1,Col.back_0 (h.block b hb hc).2⟩⟩
theorem RspV.back {base:Nat}{v:Value}{R:Rsp}(h:RspV w col base v R):RspV w col.back base v R:=by
 obtain⟨bv,hv,cav,e,h1,h2,h3,h4,h5,h6⟩:=h;exact⟨bv,hv,cav,e,h1,h2,h3,fun g hg=>Col.back_0 (h4 g hg),fun g hg=>Col.back_0 (h5 g hg),fun g hg=>Col.back_0 (h6 g hg)⟩
def Col.three (col:Col)(a b d:Nat):Col:=fun x=>if x=a then 6 else if x=b then 7 else if x=d then 8 else col x
theorem Mdl.fork {g:Nat}{c:Cfg}{s:Sta}{L:Loc}{css:List (List Value)}(h:Mdl w col 2 g c s L css)(hs:s.Ok)(hb:Below w.heap.size w w'){vt vr vg:Value}
 (ht:w'.ownsRow w.heap.size 92 6 vt 16 (s.tens.flatMap tenv))(hr:w'.ownsRow w.heap.size 74 75 vr 16 css.flatten)(hg:w'.ownsRow w.heap.size 66 4 vg s.gras.length (s.gras.flatMap grav)):
 ∃(L6:Loc) (col':Col),vt=.slice (some ⟨L6.tg,0,none⟩) 16 L6.tc∧vr=.slice (some ⟨L6.rg,0,none⟩) 16 L6.rc∧vg=.slice (some ⟨L6.gg,0,none⟩) s.gras.length L6.gc∧
  Mdl (((w'.setCell ⟨g,7,none⟩ vt).setCell ⟨g,8,none⟩ vr).setCell ⟨g,9,none⟩ vg) col' 6 g c s L6 css∧
  StAt 92 74 66 (((w'.setCell ⟨g,7,none⟩ vt).setCell ⟨g,8,none⟩ vr).setCell ⟨g,9,none⟩ vg) col' 2 L css s∧
  Turns (· ==1) w col (((w'.setCell ⟨g,7,none⟩ vt).setCell ⟨g,8,none⟩ vr).setCell ⟨g,9,none⟩ vg) col':=by
 have hgn:0<s.gras.length:=by obtain⟨h,_⟩:=tA8 hs.owner;exact h
 obtain⟨tg,tc,rfl,t1,t2,⟨tcs,t3⟩,t4⟩:=qsi ht zdc;obtain⟨rg,rc,rfl,r1,r2,⟨rcs,r3⟩,r4⟩:=qsi hr zdc;obtain⟨gg,gc,rfl,g1,g2,⟨gcs,g3⟩,g4⟩:=qsi hg hgn;have n1:tg≠rg:=fun e=>by
  subst e;have:=t3.symm.trans r3;injection this with this;injection this with _ this;cases this
 have n2:tg≠gg:=fun e=>by
  subst e;have:=t3.symm.trans g3;injection this with this;injection this with _ this;cases this
 have n3:rg≠gg:=fun e=>by
  subst e;have:=r3.symm.trans g3;injection this with this;injection this with _ this;cases this
 obtain⟨col',hcol⟩:∃col':Col,col'=col.three tg rg gg:=⟨_,rfl⟩;have same:∀b,b<w.heap.size→col' b=col b:=fun b hb'=>by
  rw[hcol];unfold Col.three;rw[if_neg zo,if_neg zo,if_neg zo]
 have c6:col' tg=6:=by rw[hcol];unfold Col.three;rw[if_pos rfl]
 have c7:col' rg=7:=by rw[hcol];unfold Col.three;rw[if_neg (Ne.symm n1),if_pos rfl]
 have c8:col' gg=8:=by rw[hcol];unfold Col.three;rw[if_neg (Ne.symm n2),if_neg (Ne.symm n3),if_pos rfl]
 have fin':Fin_ col' w':=fun b hb'=>by
  rw[hcol]at hb';unfold Col.three at hb';split at hb'
  · omega
  split at hb'
  · omega
  split at hb'
  · omega
  exact tB0 (h.fin b hb') hb.size
 have T0:Turns (fun _=>false) w col w' col':=(Turns.of_below (fun _=>false) hb).recolour same;have gl:g<w.heap.size:=h.blk.lt;have cg:col' g=1:=(same g gl).trans h.own;have gw':Blk w' g 117 (mdlv c s L):=(hb.block g gl).trans h.blk;obtain⟨W1,hW1⟩:=eqx (w'.setCell ⟨g,7,none⟩ (.slice (some ⟨tg,0,none⟩) 16 tc));obtain⟨W2,hW2⟩:=eqx (W1.setCell ⟨g,8,none⟩ (.slice (some ⟨rg,0,none⟩) 16 rc));obtain⟨W3,hW3⟩:=eqx (W2.setCell ⟨g,9,none⟩ (.slice (some ⟨gg,0,none⟩) s.gras.length gc));rw[←hW1,←hW2,←hW3];have T3:Turns (· ==1) w' col' W3 col':=by
  rw[hW3,hW2,hW1];exact((Turns.setCell (col:=col') _ (by simp[cg])).trans (Turns.setCell (col:=col') _ (by simp[cg]))).trans (Turns.setCell (col:=col') _ (by simp[cg]))
 have TT:Turns (· ==1) w col W3 col':=(T0.mono (fun k hk=>by cases hk)).trans T3;have kp:∀i,i≠1→KeepsCol i w' col' W3 col':=fun i hi=>T3.keeps (by simpa using hi)
 have kq:∀i,i≠1→KeepsCol i w col W3 col':=fun i hi=>TT.keeps (by simpa using hi)
 have B3:Blk W3 g 117 (mdlv c s {L with tg:=tg,tc:=tc,rg:=rg,rc:=rc,gg:=gg,gc:=gc}):=by
  rw[hW3,hW2,hW1];exact((gw'.set_ 7 _).set_ 8 _).set_ 9 _
 refine⟨{L with tg:=tg,tc:=tc,rg:=rg,rc:=rc,gg:=gg,gc:=gc},col',rfl,rfl,rfl,⟨B3,cg,⟨tB1 h.base.1 TT.size,fun b hb'=>(same b (tB0 hb' h.base.1)).trans (h.base.2 b hb')⟩,fin'.mono T3.size,h.seed.keep (kq 5 zdc),?_⟩,?_,TT⟩
 · exact⟨(t4 col' 6 c6).keep (kp 6 zdc),(r4 col' 7 c7).keep (kp 7 zdc),(g4 col' 8 c8).keep (kp 8 zdc),h.st.trs.keep fun i hi=>kq i zo⟩
 exact h.st.keep (kq 2 zdc) (kq 3 zdc) (kq 4 zdc) fun i hi=>kq i zo
theorem Mdl.unfork {g:Nat}{c:Cfg}{s s1:Sta}{L L1:Loc}{css css1:List (List Value)}(h:Mdl w col 6 g c s1 L1 css1)(hst:StAt 92 74 66 w col 2 L css s):
 ∃L',Mdl (w.setCells g 4 (stav s L)) col 2 g c s L' css∧Turns (· ==1) w col (w.setCells g 4 (stav s L)) col:=by
 have T:Turns (· ==1) w col (w.setCells g 4 (stav s L)) col:=Turns.setCells _ (by simp[h.own]);have kp:∀i,i≠1→KeepsCol i w col (w.setCells g 4 (stav s L)) col:=fun i hi=>T.keeps (by simpa using hi)
 have hst':=hst.keep (kp 2 zdc) (kp 3 zdc) (kp 4 zdc) fun i hi=>kp i zo
 refine⟨{L with sa:=L1.sa,sn:=L1.sn,sc:=L1.sc},⟨?_,h.own,⟨tB1 h.base.1 T.size,h.base.2⟩,h.fin.mono T.size,h.seed.keep (kp 5 zdc),⟨hst'.tens,hst'.tres,hst'.gras,hst'.trs⟩⟩,T⟩;have hb:Blk w g 117 (mdlv c s1 L1).toList.toArray:=by simpa using h.blk
 have h2:=qn5 (stav s L) 4 w _ hb (by simp[mdlv,stav]);exact h2
end
theorem qsj {w:World}{base n c k:Nat}{A:Option Addr}{bs:List Nat}(h:OwnB w base (.slice A n c) bs)(hk:k≤bs.length):OwnB w base (.slice A k c) (bs.take k):=by
 have hn:n=bs.length:=by
  rcases h.2 with⟨e,h0⟩|⟨g,cap,cur,e,_⟩
  · injection e with e1 e2;omega
  injection e with e1 e2
 unfold OwnB;rw[tBd,Nat.min_eq_left hk];refine⟨by rw[qat,tBd];omega,?_⟩;rcases h.2 with⟨e,h0⟩|⟨g,cap,cur,e,hb,hh,hnc,hc,hsz,ht⟩
 · injection e with e1 e2 e3
   subst e1 e3;exact .inl ⟨by rw[show k=0 by omega],by omega⟩
 injection e with e1 e2 e3;subst e1 e3;refine .inr ⟨g,c,cur,rfl,hb,hh,by omega,hc,hsz,?_⟩;rw[Nat.mul_one]at ht ⊢;have:(byv bs).take k=byv (bs.take k):=by simp[byv,List.map_take]
 rw[←this,←ht,List.take_take,Nat.min_eq_left hk]
theorem qsk (x y:Int)(st:Nat)(A:Option Addr)(n k:Nat)(bs:List Nat)(w:World)(hr:Reads w w.heap.size 1 A n (byv bs))(hx: -9223372036854775808≤x∧x≤9223372036854775807)(hy: -9223372036854775808≤y∧y≤9223372036854775807)(hst:st<4294967296)(hnk:n≤k)(hn:n≤140737488351232):
 Zc 12 #[.agg #[.int .i64 x,.int .i64 y,.int .u32 (st:Int),.slice A n k]] w fun e w'=>∃v,e=.returned (.agg #[.int .i64 (1+within (wrap64 (x - 1)) 0 31),.int .i64 (1+within (wrap64 (y - 1)) 0 1),.int .u32 ((st % 32769:Nat):Int),v])∧OwnB w' w.heap.size v (bs.take 64)∧Below w.heap.size w w':=by
 have HR:=zh1 hr;have r0:((st:Int)).tmod 32769=((st % 32769:Nat):Int):=by rw[Int.tmod_eq_emod_of_nonneg zo];simp
 clear hr;go_enter Tryz.func12,Tryz.ntmps12
 go_upto_region 1 with(fail)
 obtain⟨W1,hW1⟩:=eqx ((w.alloc (.cells #[.int .i64 x,.int .i64 y,.int .u32 (st:Int),.slice A n k] 25)).alloc (.cells #[.int .i64 0,.int .i64 0,.int .u32 0,.slice none 0 0] 25));rw[←hW1];have z1:Blk W1 w.heap.size 25 #[.int .i64 x,.int .i64 y,.int .u32 (st:Int),.slice A n k]:=by rw[hW1];exact(Blk.new _ _ _).alloc _
 obtain⟨Z2,B1,Z1⟩:=zh3 (show Blk W1 (w.heap.size+1) 25 #[.int .i64 0,.int .i64 0,.int .u32 0,.slice none 0 0] by rw[hW1,←qar w (.cells #[.int .i64 x,.int .i64 y,.int .u32 (st:Int),.slice A n k] 25)];exact Blk.new _ _ _) (show Below w.heap.size w W1 by rw[hW1];exact((tA5 _ _).alloc (tA4 _) _).alloc zm _) z1;clear hW1 z1;have wx: -9223372036854775808≤wrap64 (x - 1)∧wrap64 (x - 1)≤9223372036854775807:=by unfold wrap64;omega
 have wy: -9223372036854775808≤wrap64 (y - 1)∧wrap64 (y - 1)≤9223372036854775807:=by unfold wrap64;omega
 obtain⟨x',hx'⟩:=xeq (wrap64 (x - 1));obtain⟨y',hy'⟩:=xeq (wrap64 (y - 1));obtain⟨m,hm⟩:=xeq (st % 32769);rw[hx']at wx;rw[hy']at wy;rw[hm]at r0;obtain⟨HBa,HBb⟩:=zh2 (fun w'=>qkx x' 0 31 w' wx.1 wx.2 zo zo zo) (fun w'=>qkx y' 0 1 w' wy.1 wy.2 zo zo zo);obtain⟨a,ha⟩:=xeq (within x' 0 31);obtain⟨b,hb⟩:=xeq (within y' 0 1);have ba:=qky x' 0 31 zo;have bb:=qky y' 0 1 zo;rw[ha]at HBa ba;rw[hb]at HBb bb;have m0:m<32769:=zo;obtain⟨a0,a1⟩:=ba;obtain⟨b0,b1⟩:=bb;obtain⟨A9,AA,A1,AB,A0⟩:=zh5 hx' hy' hm ha hb;have ex:IntKind.i64.wrap (x - 1)=x':=by rw[←hx',IntKind.wrap_i64];unfold wrap64;rfl
 have ey:IntKind.i64.wrap (y - 1)=y':=by rw[←hy',IntKind.wrap_i64];unfold wrap64;rfl
 clear hm ha hb wx wy hx' hy';obtain⟨S,HS9⟩:=zS fun w'=>Below W1.heap.size W1 w'
 refine qjk S 15 [7,8,12,13,17,3] [(0,false),(1,false),(2,false),(5,false),(6,false),(7,false),(10,false),(11,false),(12,false)] 6 (.two 3 (.read 4 (.two 8 (.read 9 (.read 13 (.one 14 .done))) 14 (.one 8 (.read 9 (.read 13 .done))))) 14 (.one 3 (.read 4 (.one 8 (.read 9 (.read 13 .done)))))) [(15,true)] #[true,true,true,false,false,true,true,true,false,false,true,true,true,false,false,false] #[true,true,true,true,true,true,true,true,true,true,true,true,true,true,true,false] zk rfl zk zk zk zk zk (fun _ _ d _ _ h=>by cases d<;>exact h) ((HS9.o _).mpr ((tA5 _ _).drew)) ?_;have F0:=zh1 (fun(w':World)(h:S w')=>Z1.below ((HS9.o w').mp h) Z1.lt);iterate 9 (refine qjr rfl rfl ⟨?_,fun w1 hS=>?_,?_⟩;rotate_left;(focus(have g0:=(F0.o w1 hS).cell 0;have g1:=(F0.o w1 hS).cell 1;have g2:=(F0.o w1 hS).cell 2;simp only[tA3,List.getElem?_cons_zero,tBc]at g0 g1 g2;clear hS;go_simp;try rfl));simp only[Act.put,tA0,tA1,tA2])
 refine qjq ?_;obtain⟨Wd,hWd,BD⟩:=zdr W1;rw[←hWd];clear hWd;refine⟨fun vs w'=>∃g9,vs=[.int .i64 a,.int .i64 (1+a),.int .i64 b,.int .i64 (1+b),.agg #[.int .i64 (1+a),.int .i64 (1+b),.int .u32 (m:Int),.slice none 0 0],.pointer (some ⟨g9,0,none⟩)]∧Blk w' g9 25 #[.int .i64 0,.int .i64 0,.int .u32 0,.slice none 0 0]∧W1.heap.size≤g9∧Below W1.heap.size W1 w',?_,?_⟩
 ·
  obtain⟨w2,hw2⟩:=eqx (Wd.alloc (.cells #[.int .i64 0,.int .i64 0,.int .u32 0,.slice none 0 0] 25));obtain⟨Z3,B3,A4⟩:=zh3 (show Blk w2 Wd.heap.size 25 #[.int .i64 0,.int .i64 0,.int .u32 0,.slice none 0 0] by rw[hw2];exact Blk.new _ _ _) (show Below W1.heap.size W1 w2 by rw[hw2];exact BD.alloc BD.size _) hw2;clear hw2;refine qjp rfl rfl rfl rfl ?_ ?_
  ·
   go_simp;refine(HBa.o Wd).mono ?_;rintro e w9 ⟨rfl,rfl⟩;refine⟨(HS9.o _).mpr BD.o,?_⟩;try simp only[Act.put,tA0,tA1,tA2]
   iterate 1 (refine ztr ?_)
   refine qjp rfl rfl rfl rfl ?_ ?_
   ·
    go_simp;refine(HBb.o Wd).mono ?_;rintro e w9 ⟨rfl,rfl⟩;refine⟨(HS9.o _).mpr BD.o,?_⟩;try simp only[Act.put,tA0,tA1,tA2]
    iterate 2 (refine ztr ?_)
    refine qjo rfl rfl ?_;go_simp;rw[←A4.o];refine⟨(HS9.o _).mpr B3.o,qjl ⟨[_,_,_,_,_,_],rfl,Wd.heap.size,rfl,Z3.o,BD.size,B3.o⟩⟩
   go_simp;rw[←A4.o];refine⟨(HS9.o _).mpr B3.o,?_⟩;try simp only[Act.put,tA0,tA1,tA2]
   refine qjo rfl rfl ?_;go_simp;refine(HBb.o w2).mono ?_;rintro e w9 ⟨rfl,rfl⟩;refine⟨(HS9.o _).mpr B3.o,?_⟩;try simp only[Act.put,tA0,tA1,tA2]
   iterate 2 (refine ztr ?_)
   exact qjl ⟨[_,_,_,_,_,_],rfl,Wd.heap.size,rfl,Z3.o,BD.size,B3.o⟩
  go_simp;rw[←A4.o];refine⟨(HS9.o _).mpr B3.o,?_⟩;try simp only[Act.put,tA0,tA1,tA2]
  refine qjo rfl rfl ?_;go_simp;refine(HBa.o w2).mono ?_;rintro e w9 ⟨rfl,rfl⟩;refine⟨(HS9.o _).mpr B3.o,?_⟩;try simp only[Act.put,tA0,tA1,tA2]
  iterate 1 (refine ztr ?_)
  refine qjo rfl rfl ?_;go_simp;refine(HBb.o w2).mono ?_;rintro e w9 ⟨rfl,rfl⟩;refine⟨(HS9.o _).mpr B3.o,?_⟩;try simp only[Act.put,tA0,tA1,tA2]
  iterate 2 (refine ztr ?_)
  exact qjl ⟨[_,_,_,_,_,_],rfl,Wd.heap.size,rfl,Z3.o,BD.size,B3.o⟩
 rintro vs w4 - ⟨g9,rfl,z4,l4,b4⟩;simp only[puts,Act.put,tA0,tA1,tA2];refine qbi rfl rfl ?_;refine wp_store_row 25 (.tmp 3) (.tmp 17) rfl g9 #[.int .i64 (1+a),.int .i64 (1+b),.int .u32 (m:Int),.slice none 0 0] rfl rfl 25 _ z4 zk zm (by simp[Value.oneCell']) ?_;obtain⟨W5,hW5⟩:=eqx (w4.setRow g9 #[.int .i64 (1+a),.int .i64 (1+b),.int .u32 (m:Int),.slice none 0 0]);rw[←hW5];obtain⟨H5,B5,AG⟩:=zh3 (show Blk W5 g9 25 #[.int .i64 (1+a),.int .i64 (1+b),.int .u32 (m:Int),.slice none 0 0] by rw[hW5];exact z4.setRow _) (show Below W1.heap.size W1 W5 by rw[hW5];exact below_setRow b4 l4 _) l4;clear hW5 z4 l4 b4;refine⟨fun h=>absurd h zdc,?_⟩;try simp only[Act.put,tA0,tA1,tA2]
 refine qbf ?_;clear HS9 F0;have A5:=zh1 (B1.trans (B5.mono B1.size));obtain⟨AH,AC,AD⟩:=zh3 (HR.call A5.o) (Z1.below B5.o Z1.lt) (Z2.below B5.o Z2.lt);have e3:=(AC.cell 3).trans (show (#[.int .i64 x,.int .i64 y,.int .u32 (st:Int),.slice A n k]:Array Value)[3]? =some (.slice A n k) from rfl);obtain⟨LB,LG⟩:=zh2 (show w.heap.size≤W5.heap.size from A5.size) (show w.heap.size+1<g9 by have:=Z2.lt;have:=AG.o;omega);have lw5:=AC.lt;clear ex ey a0 a1 b0 b1 r0;go_wp2_with (at_builtin;refine qdy rfl _ _ rfl W5.heap.size _ [] rfl (OwnB.made W5 [] (by simp[maxLen])) A n k bs rfl (AH.laid (.cells #[] 5)) (by simp;omega) zm ?_)
 intro v3 w3 hown3 hb3 hg3;obtain⟨A3,n3,c3,rfl,k3,-,r3⟩:=hown3.sl;have hl3:bs.length=n3:=by have:=qb4 r3;simpa using this
 have b53:=(((tA5 W5.heap.size W5).alloc (tA4 _) (.cells #[] 5)).trans hb3);have h3:=H5.below b53 H5.lt;obtain⟨O3,AI,AJ⟩:=zh3 (show OwnB w3 w.heap.size (.slice A3 n3 c3) bs from(OwnB.mono hown3 LB.o).cast zm) (A5.trans (b53.mono LB.o)) (AD.below b53 AD.lt);obtain⟨W6,hW6⟩:=eqx (w3.setCell ⟨g9,3,none⟩ (.slice A3 n3 c3));obtain⟨H6,O6,AE,A2,AK,AF⟩:=zh6 (show Blk W6 g9 25 [.int .i64 (1+a),.int .i64 (1+b),.int .u32 (m:Int),.slice A3 n3 c3].toArray by rw[hW6];exact h3.set_ 3 _) (show OwnB W6 w.heap.size (.slice A3 n3 c3) bs by rw[hW6];exact OwnB.far O3.o (p:=⟨g9,3,none⟩) (qa3 O3.o h3 zdc) _) (show Below w.heap.size w W6 by rw[hW6];exact AI.setCell (p:=⟨g9,3,none⟩) (by have:=LG.o;simp;omega) _) (show Blk W6 (w.heap.size+1) 25 #[.int .i64 0,.int .i64 0,.int .u32 0,.slice none 0 0] by rw[hW6];exact AJ.far (p:=⟨g9,3,none⟩) (by have:=LG.o;simp;omega) _) hW6 hl3;have f3:=h3.frozen 3;have c33:=h3.cell 3;clear lw5 hW6 hown3 hb3 hg3 r3 hl3 e3 b53 h3;go_upto_region 3 with(fail)
 rw[←AK.o];clear f3 c33;have e6:=(H6.cell 3).trans (show ([.int .i64 (1+a),.int .i64 (1+b),.int .u32 (m:Int),.slice A3 n3 c3].toArray:Array Value)[3]? =some (.slice A3 n3 c3) from rfl);have f6:=H6.frozen 3;by_cases h64:n3≤64
 ·
  have q:¬(n3:Int)>64:=zo;have O7:=zh1 (show OwnB W6 w.heap.size (.slice A3 n3 c3) (bs.take 64) by rw[tB5 (by rw[AF.o];exact h64)];exact O6.o);clear e6 f6;have e6:=(H6.cell 3).trans (show ([.int .i64 (1+a),.int .i64 (1+b),.int .u32 (m:Int),.slice A3 n3 c3].toArray:Array Value)[3]? =some (.slice A3 n3 c3) from rfl);obtain⟨A6,OL⟩:=zh2 (qap H6.o 0 [.int .i64 (1+a),.int .i64 (1+b),.int .u32 (m:Int),.slice A3 n3 c3] (fun j u h=>by simpa using h)) (show ∀u∈([.int .i64 (1+a),.int .i64 (1+b),.int .u32 (m:Int),.slice A3 n3 c3]:List Value),u.oneCell'=true by intro u hu;simp at hu;rcases hu with rfl|rfl|rfl|rfl<;>rfl);go_wp2_with (first
   |(refine qaq rfl 25 (.tmp 3) rfl g9 0 rfl [.int .i64 (1+a),.int .i64 (1+b),.int .u32 (m:Int),.slice A3 n3 c3] _ A6.o Tryz.underlying25 rfl zk ?_)
   |(refine wpList_store_row rfl 25 (.tmp 2) (.tmp 31) rfl (w.heap.size+1) ([.int .i64 (1+a),.int .i64 (1+b),.int .u32 (m:Int),.slice A3 n3 c3]).toArray rfl rfl 25 _ A2.o zk zm (by simpa using OL.o) ?_))
  have A7:=qap (A2.setRow ([.int .i64 (1+a),.int .i64 (1+b),.int .u32 (m:Int),.slice A3 n3 c3]).toArray) 0 [.int .i64 (1+a),.int .i64 (1+b),.int .u32 (m:Int),.slice A3 n3 c3] (fun j u h=>by simpa using h);refine bodyPost_ret (v:=.agg ([.int .i64 (1+a),.int .i64 (1+b),.int .u32 (m:Int),.slice A3 n3 c3]).toArray) (qao rfl rfl (run_loadVar_mid _ _ 0 _ [.int .i64 (1+a),.int .i64 (1+b),.int .u32 (m:Int),.slice A3 n3 c3] _ A7 Tryz.underlying25 rfl zk)) rfl ?_;refine⟨_,?_,tB3 O7.o (qam _ _ _) (.inr (qa3 O7.o A2.o zdc)),below_setRow AE.o zo _⟩;rw[A9.o,AA.o,AB.o,A0.o];first|rw[A1.o]|rw[show (st:Int) % 32769=(m:Int) by have:=A1.o;omega]
 have q:(n3:Int)>64:=zo;have q2:(64:Int)≤c3:=zo;obtain⟨W7,hW7⟩:=eqx (W6.setCell ⟨g9,3,none⟩ (.slice A3 64 c3));obtain⟨H7,O7,AL,A8,AM⟩:=zh5 (show Blk W7 g9 25 [.int .i64 (1+a),.int .i64 (1+b),.int .u32 (m:Int),.slice A3 64 c3].toArray by rw[hW7];exact H6.set_ 3 _) (show OwnB W7 w.heap.size (.slice A3 64 c3) (bs.take 64) by rw[hW7];exact qsj (OwnB.far O6.o (p:=⟨g9,3,none⟩) (qa3 O6.o H6.o zdc) _) (by rw[AF.o];omega)) (show Below w.heap.size w W7 by rw[hW7];exact AE.setCell (p:=⟨g9,3,none⟩) (by have:=LG.o;simp;omega) _) (show Blk W7 (w.heap.size+1) 25 #[.int .i64 0,.int .i64 0,.int .u32 0,.slice none 0 0] by rw[hW7];exact A2.far (p:=⟨g9,3,none⟩) (by have:=LG.o;simp;omega) _) hW7;clear hW7;go_upto_region 5 with(fail)
 rw[←AM.o];clear e6 f6;obtain⟨A6,OL⟩:=zh2 (qap H7.o 0 [.int .i64 (1+a),.int .i64 (1+b),.int .u32 (m:Int),.slice A3 64 c3] (fun j u h=>by simpa using h)) (show ∀u∈([.int .i64 (1+a),.int .i64 (1+b),.int .u32 (m:Int),.slice A3 64 c3]:List Value),u.oneCell'=true by intro u hu;simp at hu;rcases hu with rfl|rfl|rfl|rfl<;>rfl);go_wp2_with (first
  |(refine qaq rfl 25 (.tmp 3) rfl g9 0 rfl [.int .i64 (1+a),.int .i64 (1+b),.int .u32 (m:Int),.slice A3 64 c3] _ A6.o Tryz.underlying25 rfl zk ?_)
  |(refine wpList_store_row rfl 25 (.tmp 2) (.tmp 31) rfl (w.heap.size+1) ([.int .i64 (1+a),.int .i64 (1+b),.int .u32 (m:Int),.slice A3 64 c3]).toArray rfl rfl 25 _ A8.o zk zm (by simpa using OL.o) ?_))
 have A7:=qap (A8.setRow ([.int .i64 (1+a),.int .i64 (1+b),.int .u32 (m:Int),.slice A3 64 c3]).toArray) 0 [.int .i64 (1+a),.int .i64 (1+b),.int .u32 (m:Int),.slice A3 64 c3] (fun j u h=>by simpa using h);refine bodyPost_ret (v:=.agg ([.int .i64 (1+a),.int .i64 (1+b),.int .u32 (m:Int),.slice A3 64 c3]).toArray) (qao rfl rfl (run_loadVar_mid _ _ 0 _ [.int .i64 (1+a),.int .i64 (1+b),.int .u32 (m:Int),.slice A3 64 c3] _ A7 Tryz.underlying25 rfl zk)) rfl ?_;refine⟨_,?_,tB3 O7.o (qam _ _ _) (.inr (qa3 O7.o A8.o zdc)),below_setRow AL.o zo _⟩;rw[A9.o,AA.o,AB.o,A0.o];first|rw[A1.o]|rw[show (st:Int) % 32769=(m:Int) by have:=A1.o;omega]
theorem qsl {st et:TypeId}{i:TypeInfo}(hu:Tryz.prog.underlying st=some (.slice et))(hi:Tryz.prog.info? et=some i)(b off:Nat)(s:Option Nat)(c:Nat)(w:World):(Builtin.append_ #[st,st] st #[.slice (some ⟨w.heap.size,0,none⟩) 0 0,.slice (some ⟨b,off,s⟩) 0 c]).run Tryz.prog (w.alloc (.cells #[] et))=.ok (.slice (some ⟨w.heap.size,0,none⟩) 0 0) (w.alloc (.cells #[] et)):=by
 simp[Builtin.append_,run_underlying hu,sizeOf,typeInfo,hi,Builtin.lenOf,Builtin.firstCells,storeCells,loadCells,loadCellsFrom,Result.andThen]
theorem qsm {f st et size bytes nt:Nat}{fn:Func}(hF:Tryz.prog.funcs[f]? =some fn)(hN:fn.ntmps=nt){ρ:Go.Shelf.Ren}(lay:Go.Proofs.SlLaysE0.n41 Tryz.prog ρ)(hu:Tryz.prog.underlying st=some (.slice et))(A:Option Addr)(n c:Nat)(xs:List Value)(w:World)(hr:Reads w w.heap.size size A n xs)(hn:n*bytes≤140737488355328)(h1:∀u∈xs,u.oneCell'=true)
 (hf:ρ.f 41=f:=by rfl)(ht:ρ.t 22=st:=by rfl)(he:ρ.t 23=et:=by rfl)(hinfo:((Tryz.prog.info? et).bind fun i=>i.zero.map fun z=>(z.cells.size,i.size,i.bytes))=some (size,size,bytes):=by kernel_rfl)(hs:0<size:=by decide)(hb0:0<bytes:=by decide)(z23:∀w,(Go.sizeOf (ρ.t 23)).run Tryz.prog w=.ok size w:=by(intro w;kernel_rfl))
 (hz:Tryz.prog.funcs[f]? =some fn→fn.ntmps=nt→Tryz.prog.underlying st=some (.slice et)→∀i,Tryz.prog.info? et=some i→∀(b off:Nat) (s) (c:Nat) (w:World),Zc f #[.slice (some ⟨b,off,s⟩) 0 c] w fun e w'=>∃v',e=.returned v'∧w'.ownsRow w.heap.size et size v' 0 []∧Below w.heap.size w w':=by
  (intro hF hN hu i hi b off s c w
   have qT:=fun w=>Lib.run_eql_slice_nil w _ _ (some ⟨b,off,s⟩) 0 c 0 0 hu
   have hap:=qsl hu hi b off s c;clear hu hi;go_enter hF,hN
   go_wp2
   go_ret
   exact⟨_,rfl,⟨by simp,.inr ⟨w.heap.size,0,#[],rfl,tA4 _,heap_alloc_new _ _,tA4 _,by simp[maxLen],by simp,by simp⟩⟩,(tA5 _ _).alloc (tA4 _) _⟩)):
 Zc f #[.slice A n c] w fun e w'=>∃v',e=.returned v'∧w'.ownsRow w.heap.size et size v' n xs∧Below w.heap.size w w':=by
 subst hf;obtain⟨i0,z,hi,hzz,hzs,hs',hb⟩:∃i z,Tryz.prog.info? et=some i∧i.zero=some z∧z.cells.size=size∧i.size=size∧i.bytes=bytes:=by
  rcases h:Tryz.prog.info? et with _|i
  · rw[h]at hinfo;cases hinfo
  rcases h2:i.zero with _|z
  · rw[h]at hinfo;simp[h2]at hinfo
  rw[h]at hinfo;simp[h2]at hinfo;exact⟨i,z,rfl,h2,hinfo.1,hinfo.2.1,hinfo.2.2⟩
 have nil:n=0→xs=[]:=fun h=>tB8 (by rw[hr.1,h,Nat.zero_mul])
 rcases A with _|⟨b,off,s⟩
 ·
  have hn0:n=0:=by
   rcases Nat.eq_zero_or_pos n with h0|h0
   · exact h0
   obtain⟨ad,h,_⟩:=hr.2 h0;cases h
  rw[nil hn0,hn0];refine(AnyE.slices_Clone_nil lay 0 c w).mono ?_;rintro e w' ⟨rfl,rfl⟩;exact⟨_,rfl,World.ownsRow_nil ..,tA5 _ _⟩
 by_cases h0:n=0
 · rw[nil h0,h0]
   exact hz hF hN hu i0 hi b off s c w
 obtain⟨b',o',e,hb',hc⟩:=hr.mid zo hs;injection e with e;injection e with e1 e2 e3;subst e1 e2 e3;subst he;refine(AnyE.slices_Clone lay i0 z size bytes hi hzz hs' hb hzs hs z23 b off n c xs w hr.1 (tB1 (Nat.le_mul_of_pos_right n hb0) (tB1 hn (by simp[maxLen]))) hn (fun j u hu=>hc j u hu) h1).mono ?_;rintro e w' ⟨v',rfl,h2,_,h4⟩;exact⟨v',rfl,h2,h4⟩
def Tryz.clr47:Go.Shelf.Ren:=⟨fun|41=>47|n=>n,fun|22=>23|23=>5|4=>4|n=>n,fun|n=>n⟩
theorem Tryz.cll47:Go.Proofs.SlLaysE0.n41 Tryz.prog Tryz.clr47:={
 mixed:=by kernel_rfl
 f41:=⟨Tryz.f47.name,by decide,Tryz.func47.trans (congrArg some zk)⟩
 t4:=Tryz.underlying4
 a4:=Tryz.isAgg4
 z4:=Tryz.sizeOf4
 v4:=Tryz.zeroValue4
 t22:=Tryz.underlying23
 a22:=Tryz.isAgg23
 z22:=Tryz.sizeOf23
 v22:=Tryz.zeroValue23}
theorem qsn (A:Option Addr)(n c:Nat)(xs:List Value)(w:World)(hr:Reads w w.heap.size 1 A n xs)(hn:n*1≤140737488355328)(h1:∀u∈xs,u.oneCell'=true):
 Zc 47 #[.slice A n c] w fun e w'=>∃v',e=.returned v'∧w'.ownsRow w.heap.size 5 1 v' n xs∧Below w.heap.size w w':=
 qsm Tryz.func47 Tryz.ntmps47 Tryz.cll47 Tryz.underlying23 A n c xs w hr hn h1
def Tryz.clr88:Go.Shelf.Ren:=⟨fun|41=>88|n=>n,fun|22=>71|23=>22|4=>4|n=>n,fun|n=>n⟩
theorem Tryz.cll88:Go.Proofs.SlLaysE0.n41 Tryz.prog Tryz.clr88:={
 mixed:=by kernel_rfl
 f41:=⟨Tryz.f88.name,by decide,Tryz.func88.trans (congrArg some zk)⟩
 t4:=Tryz.underlying4
 a4:=Tryz.isAgg4
 z4:=Tryz.sizeOf4
 v4:=Tryz.zeroValue4
 t22:=Tryz.underlying71
 a22:=Tryz.isAgg71
 z22:=Tryz.sizeOf71
 v22:=Tryz.zeroValue71}
theorem qso (A:Option Addr)(n c:Nat)(xs:List Value)(w:World)(hr:Reads w w.heap.size 1 A n xs)(hn:n*4≤140737488355328)(h1:∀u∈xs,u.oneCell'=true):
 Zc 88 #[.slice A n c] w fun e w'=>∃v',e=.returned v'∧w'.ownsRow w.heap.size 22 1 v' n xs∧Below w.heap.size w w':=
 qsm Tryz.func88 Tryz.ntmps88 Tryz.cll88 Tryz.underlying71 A n c xs w hr hn h1
def Tryz.clr65:Go.Shelf.Ren:=⟨fun|41=>65|n=>n,fun|22=>72|23=>23|4=>4|n=>n,fun|n=>n⟩
theorem Tryz.cll65:Go.Proofs.SlLaysE0.n41 Tryz.prog Tryz.clr65:={
 mixed:=by kernel_rfl
 f41:=⟨Tryz.f65.name,by decide,Tryz.func65.trans (congrArg some zk)⟩
 t4:=Tryz.underlying4
 a4:=Tryz.isAgg4
 z4:=Tryz.sizeOf4
 v4:=Tryz.zeroValue4
 t22:=Tryz.underlying72
 a22:=Tryz.isAgg72
 z22:=Tryz.sizeOf72
 v22:=Tryz.zeroValue72}
theorem qsp (A:Option Addr)(n c:Nat)(xs:List Value)(w:World)(hr:Reads w w.heap.size 1 A n xs)(hn:n*24≤140737488355328)(h1:∀u∈xs,u.oneCell'=true):
 Zc 65 #[.slice A n c] w fun e w'=>∃v',e=.returned v'∧w'.ownsRow w.heap.size 23 1 v' n xs∧Below w.heap.size w w':=
 qsm Tryz.func65 Tryz.ntmps65 Tryz.cll65 Tryz.underlying72 A n c xs w hr hn h1
def Tryz.clr51:Go.Shelf.Ren:=⟨fun|41=>51|n=>n,fun|22=>45|23=>92|4=>4|n=>n,fun|n=>n⟩
theorem Tryz.cll51:Go.Proofs.SlLaysE0.n41 Tryz.prog Tryz.clr51:={
 mixed:=by kernel_rfl
 f41:=⟨Tryz.f51.name,by decide,Tryz.func51.trans (congrArg some zk)⟩
 t4:=Tryz.underlying4
 a4:=Tryz.isAgg4
 z4:=Tryz.sizeOf4
 v4:=Tryz.zeroValue4
 t22:=Tryz.underlying45
 a22:=Tryz.isAgg45
 z22:=Tryz.sizeOf45
 v22:=Tryz.zeroValue45}
theorem qsq (A:Option Addr)(n c:Nat)(xs:List Value)(w:World)(hr:Reads w w.heap.size 6 A n xs)(hn:n*24≤140737488355328)(h1:∀u∈xs,u.oneCell'=true):
 Zc 51 #[.slice A n c] w fun e w'=>∃v',e=.returned v'∧w'.ownsRow w.heap.size 92 6 v' n xs∧Below w.heap.size w w':=
 qsm Tryz.func51 Tryz.ntmps51 Tryz.cll51 Tryz.underlying45 A n c xs w hr hn h1
def Tryz.clr52:Go.Shelf.Ren:=⟨fun|41=>52|n=>n,fun|22=>46|23=>74|4=>4|n=>n,fun|n=>n⟩
theorem Tryz.cll52:Go.Proofs.SlLaysE0.n41 Tryz.prog Tryz.clr52:={
 mixed:=by kernel_rfl
 f41:=⟨Tryz.f52.name,by decide,Tryz.func52.trans (congrArg some zk)⟩
 t4:=Tryz.underlying4
 a4:=Tryz.isAgg4
 z4:=Tryz.sizeOf4
 v4:=Tryz.zeroValue4
 t22:=Tryz.underlying46
 a22:=Tryz.isAgg46
 z22:=Tryz.sizeOf46
 v22:=Tryz.zeroValue46}
theorem qsr (A:Option Addr)(n c:Nat)(xs:List Value)(w:World)(hr:Reads w w.heap.size 75 A n xs)(hn:n*200≤140737488355328)(h1:∀u∈xs,u.oneCell'=true):
 Zc 52 #[.slice A n c] w fun e w'=>∃v',e=.returned v'∧w'.ownsRow w.heap.size 74 75 v' n xs∧Below w.heap.size w w':=
 qsm Tryz.func52 Tryz.ntmps52 Tryz.cll52 Tryz.underlying46 A n c xs w hr hn h1
def Tryz.clr53:Go.Shelf.Ren:=⟨fun|41=>53|n=>n,fun|22=>47|23=>66|4=>4|n=>n,fun|n=>n⟩
theorem Tryz.cll53:Go.Proofs.SlLaysE0.n41 Tryz.prog Tryz.clr53:={
 mixed:=by kernel_rfl
 f41:=⟨Tryz.f53.name,by decide,Tryz.func53.trans (congrArg some zk)⟩
 t4:=Tryz.underlying4
 a4:=Tryz.isAgg4
 z4:=Tryz.sizeOf4
 v4:=Tryz.zeroValue4
 t22:=Tryz.underlying47
 a22:=Tryz.isAgg47
 z22:=Tryz.sizeOf47
 v22:=Tryz.zeroValue47}
theorem qss (A:Option Addr)(n c:Nat)(xs:List Value)(w:World)(hr:Reads w w.heap.size 4 A n xs)(hn:n*32≤140737488355328)(h1:∀u∈xs,u.oneCell'=true):
 Zc 53 #[.slice A n c] w fun e w'=>∃v',e=.returned v'∧w'.ownsRow w.heap.size 66 4 v' n xs∧Below w.heap.size w w':=
 qsm Tryz.func53 Tryz.ntmps53 Tryz.cll53 Tryz.underlying47 A n c xs w hr hn h1
def Tryz.clr146:Go.Shelf.Ren:=⟨fun|41=>146|n=>n,fun|22=>134|23=>136|4=>4|n=>n,fun|n=>n⟩
theorem Tryz.cll146:Go.Proofs.SlLaysE0.n41 Tryz.prog Tryz.clr146:={
 mixed:=by kernel_rfl
 f41:=⟨Tryz.f146.name,by decide,Tryz.func146.trans (congrArg some zk)⟩
 t4:=Tryz.underlying4
 a4:=Tryz.isAgg4
 z4:=Tryz.sizeOf4
 v4:=Tryz.zeroValue4
 t22:=Tryz.underlying134
 a22:=Tryz.isAgg134
 z22:=Tryz.sizeOf134
 v22:=Tryz.zeroValue134}
theorem qst (A:Option Addr)(n c:Nat)(xs:List Value)(w:World)(hr:Reads w w.heap.size 3 A n xs)(hn:n*24≤140737488355328)(h1:∀u∈xs,u.oneCell'=true):
 Zc 146 #[.slice A n c] w fun e w'=>∃v',e=.returned v'∧w'.ownsRow w.heap.size 136 3 v' n xs∧Below w.heap.size w w':=
 qsm Tryz.func146 Tryz.ntmps146 Tryz.cll146 Tryz.underlying134 A n c xs w hr hn h1
theorem Tryz.madd_info:(Tryz.prog.info? 23).map (fun i=>(i.zero,i.size,i.bytes))=some (some (.slice none 0 0),1,24):=by kernel_rfl
theorem qsu (c:Cfg)(s:Sta)(L:Loc)(col:Col)(k g:Nat)(css:List (List Value))(n:Nat)(t:Tre)(R:Req)(Ac:Option Addr)(cc:Nat)(Al:Option Addr)(cl:Nat)(w:World)(hk:Kind k)(hc:c.Ok)(hs:s.Ok)(h:Mdl w col k g c s L css)
 (hr:Asked w col R Ac cc Al cl)(hrt:R.tree=(n:Int))(ht:s.tres[n]? =some t)(hl:R.leaf.length≤256):
 Zc 135 #[.pointer (some ⟨g,0,none⟩),.pointer (some ⟨L.rg,n*75,none⟩),.agg (reqv R (.slice Ac R.cavs.length cc) (.slice Al R.leaf.length cl)).toArray] w fun e w'=>∃v col',e=.returned v∧RspV w' col' w.heap.size v (qmn c s R t).2∧Did w col w' col' k g c css s (qmn c s R t).1:=by
 obtain⟨hn16,Ad,cd,Al',cl',Aq,cq,hcs,hcell,hrd,hrl,hrq⟩:=h.st.tree hs ht;have hto:=hs.tre ht;have rlen:=qiu R (.slice Ac R.cavs.length cc) (.slice Al R.leaf.length cl) hr.good.tag;have r35:(reqv R (.slice Ac R.cavs.length cc) (.slice Al R.leaf.length cl))[35]? =some (.int .i64 (n:Int)):=by rw[←hrt];exact qdh R _ _ hr.good.tag 0
 have r47:(reqv R (.slice Ac R.cavs.length cc) (.slice Al R.leaf.length cl))[47]? =some (.slice Al R.leaf.length cl):=qdh R _ _ hr.good.tag 12;obtain⟨Q,hQ⟩:=xeq (reqv R (.slice Ac R.cavs.length cc) (.slice Al R.leaf.length cl));rw[hQ]at rlen r35 r47 ⊢;obtain⟨W0,hW0⟩:=eqx ((w.alloc (.cells Q.toArray 34)).alloc (.cells Tryz.zeroCells57 57));have q0:Blk W0 w.heap.size 34 Q.toArray:=by rw[hW0];exact(Blk.new w _ _).alloc _
 have z0:Blk W0 (w.heap.size+1) 57 Tryz.zeroCells57:=by
  have h:=Blk.new (w.alloc (.cells Q.toArray 34)) 57 Tryz.zeroCells57;rw[qar]at h;rw[hW0];exact h
 have b0:Below w.heap.size w W0:=by rw[hW0];exact qah (qah (tA5 _ _) _) _
 have hG0:col (w.heap.size+1)=0:=by
  by_cases e:col (w.heap.size+1)=0
  · exact e
  have:=h.fin _ e;omega
 have c0:=qai (hcell 0 (.int .i64 t.state) rfl) b0;have c1:=qai (hcell 1 (.int .i64 t.tenant) rfl) b0;have c5:=qai (hcell 5 (.slice Al' t.leaves.length cl') rfl) b0;have c6:=qai (hcell 6 (.slice Aq t.queue.length cq) rfl) b0;have k35:=(q0.cell 35).trans (show Q.toArray[35]? =some (.int .i64 (n:Int)) by rw[tA3];exact r35);have k47:=(q0.cell 47).trans (show Q.toArray[47]? =some (.slice Al R.leaf.length cl) by rw[tA3];exact r47);simp only[Nat.add_zero]at c0;have D0:=Did.same (css:=css) h b0;obtain⟨H,AJ,Q0,Z0,B0,A5,AU,HK⟩:=zh8 h hW0 q0 z0 b0 hG0 D0 hk;obtain⟨HS,HC,HT,AK,HR,C0,C1,C5⟩:=zh8 hs hc ht hto hr c0 c1 c5;obtain⟨C6,BK,AL,C2,A8,BL,C3,C4⟩:=zh8 c6 k35 k47 hcs hrt hl hrl hrq;clear h hW0 q0 z0 b0 hG0 D0 hk hs hc ht hto hr c0 c1 c5 c6 k35 k47 r35 r47 rlen hQ hcs hcell hrd hrt hl hrl hrq;by_cases hA:n=0∨t.state≠1
 ·
  have hdo:qmn c s R t=(s,rWhy 24):=by unfold qmn;rw[if_pos (by rw[A8.o];omega)]
  have A0:=zh1 hdo;clear hdo;obtain⟨x,hx⟩:=xeq t.state;rw[hx]at hA;have c0:=C0.o;rw[hx]at c0;have k35:=BK.o;clear hx;rw[AJ.o]at c0 k35;by_cases h0:n=0
  · subst h0
    go_enter Tryz.func135,Tryz.ntmps135
    go_wp2_with fail
    clear c0 k35;rw[←AJ.o];exact qr6 A0 HK (A5.o) (qqe 24 W0) (Z0.o) (AU.o)
  have hx1:x≠1:=zo;have qn:((n:Int)==0)=false:=by simp;omega
  have ha:qkn x=false:=by unfold qkn;simpa using hx1
  go_enter Tryz.func135,Tryz.ntmps135
  go_wp2_with fail
  clear c0 k35;rw[←AJ.o];refine zca (qkv x W0) ?_;rw[ha];go_wp2_with fail
  exact qr6 A0 HK (A5.o) (qqe 24 W0) (Z0.o) (AU.o)
 have hn0:n≠0:=zo;have hx:t.state=1:=zo;have c0:=C0.o;have k35:=BK.o;rw[hx]at c0;rw[AJ.o]at c0 k35;have qn:((n:Int)==0)=false:=by simp;omega
 have ha:qkn 1=true:=rfl;obtain⟨AG,AH⟩:=zh2 hn0 hx;clear hA hn0 hx;go_enter Tryz.func135,Tryz.ntmps135
 go_wp2_with fail
 clear c0 k35;rw[←AJ.o];refine zca (qkv 1 W0) ?_;rw[ha];clear qn ha;go_upto_region 3 with(fail)
 have hlf:=HR.good.leafb;obtain⟨A1,k1,e1,a1,a2,a3⟩:=C3.reads;injection e1 with e11 e12 e13;subst e11 e13;obtain⟨A2,k2,e2,a4,a5,a6⟩:=C4.reads;injection e2 with e21 e22 e23;subst e21 e23;obtain⟨BM,BN⟩:=zh2 a3 a6;clear a1 a2 a3 a4 a5 a6;obtain⟨nl,hnl⟩:=xeq t.leaves.length;obtain⟨nq,hnq⟩:=xeq t.queue.length;obtain⟨nf,hnf⟩:=xeq R.leaf.length;have hto:=AK.o;have hb1:=hto.leaves;have hb2:=hto.queue;rw[hnl,hnq]at hb1;rw[hnq]at hb2;rw[hnl]at C5 BM;rw[hnq]at C6 BN;rw[hnf]at AL;obtain⟨AC,A7,AD,AP,CG,BO,AV⟩:=zh7 hnl hnq hnf hb1 hb2 hlf (show Reads w w.heap.size 1 Al nf (byv R.leaf) by have:=HR.leaf;rwa[hnf]at this);obtain⟨I1,I2⟩:=zh2 (fun w' (hb:Below w.heap.size w w')=>qr0 R.leaf t.leaves Al' Al nl cl' nf cl w' zo (BM.call hb) (fun b hb=>(AK.leafb b hb).bs) BO.o (AV.call hb)) (fun w' (hb:Below w.heap.size w w')=>qr0 R.leaf t.queue Aq Al nq cq nf cl w' zo (BN.call hb) (fun b hb=>(AK.queueb b hb).bs) BO.o (AV.call hb));clear hlf hnl hnq hnf hto hb1 hb2;obtain⟨S,HS9⟩:=zS fun w'=>Below W0.heap.size W0 w'
 refine zrs S 8 (zq 0 6 [(6,true),(7,false)]) ((HS9.o _).mpr ((tA5 _ _).drew)) ?_;obtain⟨F0,F1⟩:=zh2 (zF HS9 C5.o) (zF HS9 AL.o);iterate 6 (refine zr2 ?_)
 obtain⟨Wd,hWd⟩:=eqx W0.drew;have bd:Below W0.heap.size W0 Wd:=by rw[hWd];exact(tA5 _ _).drew
 rw[←hWd];have BD:=zh1 bd;clear hWd bd;refine zw ?_;go_simp;refine zcb (I1.o Wd (B0.trans (BD.mono B0.size))) fun w1 b1=>?_
 have B1:=zh1 (BD.trans (b1.mono BD.size));clear b1;refine⟨(HS9.o _).mpr B1.o,zput ?_⟩;iterate 1 (refine zrb ?_)
 refine qbf ?_;clear HS9 F0 F1;obtain⟨Z1,BP,S1⟩:=zh3 (Z0.below B1.o Z0.lt) (AU.call B1.o) B1.size;cases hf1:qmm t.leaves R.leaf with
 |some k0=>
  have hk0:k0<nl:=by
   unfold qmm at hf1;obtain⟨h,_⟩:=List.findIdx?_eq_some_iff_getElem.1 hf1;have:=AC.o;omega
  have hdo:qmn c s R t=(s,qml k0):=by unfold qmn;rw[if_neg (by rw[A8.o,AH.o];have:=AG.o;omega),hf1]
  have hb1:=AP.o;have q1:(0:Int)≤k0:=zo;have A0:=zh1 hdo;rw[show idxI (some k0)=(k0:Int) from rfl];clear hf1 hdo;go_wp2_with fail
  exact qr6 A0 HK (A5.o) (qqd k0 w1 zo) (Z1.o) (BP.o)
 |none=>
  rw[show idxI none= -1 from rfl];have AM:=zh1 hf1;clear hf1;go_upto_region 6 with(fail)
  obtain⟨S,HS9⟩:=zS fun w'=>Below w1.heap.size w1 w'
  refine zrs S 8 (zq 0 6 [(6,true),(7,false)]) ((HS9.o _).mpr ((tA5 _ _).drew)) ?_;obtain⟨F0,F1⟩:=zh2 (zF HS9 (qai C6.o B1.o)) (zF HS9 (qai AL.o B1.o));iterate 6 (refine zr2 ?_)
  obtain⟨We,hWe⟩:=eqx w1.drew;have be':Below w1.heap.size w1 We:=by rw[hWe];exact(tA5 _ _).drew
  rw[←hWe];have BE:=zh1 be';clear hWe be';refine zw ?_;go_simp;refine zcb (I2.o We ((B0.trans (B1.mono B0.size)).trans (BE.mono (tB1 B0.size B1.size)))) fun w2 b2=>?_
  have B2:=zh1 (BE.trans (b2.mono BE.size));clear b2;refine⟨(HS9.o _).mpr B2.o,zput ?_⟩;iterate 1 (refine zrb ?_)
  refine qbf ?_;clear HS9 F0 F1;obtain⟨Z2,BQ,AQ⟩:=zh3 (Z1.below B2.o Z1.lt) (BP.call B2.o) (B1.trans (B2.mono B1.size));have c5:=qai C5.o AQ.o;have c6:=qai C6.o AQ.o;obtain⟨C8,C9⟩:=zh2 c5 c6;cases hf2:qmm t.queue R.leaf with
  |some k0=>
   have hk0:k0<nq:=by
    unfold qmm at hf2;obtain⟨h,_⟩:=List.findIdx?_eq_some_iff_getElem.1 hf2;have:=A7.o;omega
   have hdo:qmn c s R t=(s,qml (nl+k0)):=by unfold qmn;rw[if_neg (by rw[A8.o,AH.o];have:=AG.o;omega),AM.o,hf2,AC.o]
   have hb1:=AP.o;have q1:(0:Int)≤k0:=zo;have q2:wrap64 ((nl:Int)+k0)=((nl+k0:Nat):Int):=by rw[IntWalk.wrap64_in _ zo];omega
   have A0:=zh1 hdo;rw[show idxI (some k0)=(k0:Int) from rfl];clear hf2 hdo;go_wp2_with fail
   clear c5 c6;rw[show ((nl:Int)+k0)=((nl+k0:Nat):Int) by omega];exact qr6 A0 HK (A5.o) (qqd (nl+k0) w2 zo) (Z2.o) (BQ.o)
  |none=>
   rw[show idxI none= -1 from rfl];have AR:=zh1 hf2;clear hf2 c5 c6;go_upto_region 9 with(fail)
   have hb1:=AP.o;have q1:wrap64 ((nl:Int)+nq)=((nl+nq:Nat):Int):=by rw[IntWalk.wrap64_in _ zo];omega
   have q2:IntKind.i64.wrap ((nl:Int)+nq)=((nl+nq:Nat):Int):=by rw[tBb _ zo];omega
   obtain⟨S,HS9⟩:=zS fun w'=>Below w2.heap.size w2 w'
   refine zrs S 12 (zq 0 12 []) ((HS9.o _).mpr ((tA5 _ _).drew)) ?_;obtain⟨F0,F1⟩:=zh2 (zF HS9 C8.o) (zF HS9 C9.o);iterate 12 (refine zr2 ?_)
   refine qbf ?_;clear HS9 F0 F1 q1 q2;obtain⟨W3,hW3,B3⟩:=zdr w2;rw[←hW3];clear hW3;obtain⟨Z3,AW,AI⟩:=zh3 (Z2.below B3.o Z2.lt) (BQ.call B3.o) (AQ.trans (B3.mono AQ.size));have c6:=qai C6.o AI.o;by_cases hbig:64≤nq∨1024≤nl+nq
   ·
    have hdo:qmn c s R t=(s,rWhy 4):=by
     unfold qmn;rw[if_neg (by rw[A8.o,AH.o];have:=AG.o;omega),AM.o];simp only[];rw[AR.o];simp only[];rw[if_pos (by rw[AC.o,A7.o];exact hbig)]
    have A0:=zh1 hdo;clear hdo;by_cases h64:64≤nq
    · have p1:(64:Int)≤nq:=zo
      clear hbig h64;go_wp2_with fail
      clear c6;exact qr6 A0 HK (A5.o) (qqe 4 W3) (Z3.o) (AW.o)
    have p1:¬(64:Int)≤nq:=zo;have p2:(1024:Int)≤((nl+nq:Nat):Int):=zo;have p3:(1024:Int)≤(nl:Int)+nq:=zo;clear hbig h64;go_wp2_with fail
    clear c6;exact qr6 A0 HK (A5.o) (qqe 4 W3) (Z3.o) (AW.o)
   have p1:¬(64:Int)≤nq:=zo;have p2:¬(1024:Int)≤((nl+nq:Nat):Int):=zo;have p3:¬(1024:Int)≤(nl:Int)+nq:=zo;have AX:=zh1 hbig;clear hbig;have k47:=qai AL.o AI.o;have hll:=BL.o;rw[AD.o]at hll;have q1:IntKind.u64.wrap (nf:Int)=(nf:Int):=tBa _ zo;have q2:IntKind.u64.wrap ((nf:Int)+16)=(nf:Int)+16:=tBa _ zo;go_upto_region 13 with(fail)
   clear c6 k47 q1 q2 p1 p2 p3;obtain⟨m,hm⟩:∃m:Nat,t.tenant=m:=⟨t.tenant.toNat,by have:=AK.tenant;omega⟩;have hm16:m<16:=by have:=AK.tenant;omega
   obtain⟨x,hx⟩:∃x,s.tens[m]? =some x:=⟨_,tA7 (by rw[HS.tensn];exact hm16)⟩;have hxo:=HS.ten hx;have c1:=C1.o;rw[hm]at c1;have e7:=H.c7;obtain⟨C7,C1m⟩:=zh2 e7 c1;have tcell:∀j u,j<6→(tenv x)[j]? =some u→w.cell? ⟨L.tg,m*6+j,none⟩=some u:=fun j u hj hu=>H.st.tens.cell ((qnl hx hj).trans hu)
   obtain⟨T2,T5,HM,HX,BR⟩:=zh5 (tcell 4 (.int .u32 (x.store:Int)) zo rfl) (tcell 5 (.int .u32 (x.used:Int)) zo rfl) hm hx hxo;have hten:s.tenant t.tenant=some x:=by unfold Sta.tenant;rw[hm,if_pos zo,tBe];exact hx
   have AE:=zh1 hten;have qm1:(m:Int)<16:=zo;have qm0:(0:Int)≤m:=zo;clear hm hx hxo c1 e7 tcell hten;obtain⟨S,HS9⟩:=zS fun w'=>Below W3.heap.size W3 w'
   refine zrs S 11 (zq 0 11 []) ((HS9.o _).mpr ((tA5 _ _).drew)) ?_;obtain⟨F0,F1⟩:=zh2 (zF HS9 (qai (qai C7.o B0.o) AI.o)) (zF HS9 (qai C1m.o AI.o));iterate 11 (refine zr2 ?_)
   refine qbf ?_;clear HS9 F0 F1 qm0 qm1;obtain⟨W4,hW4,B4⟩:=zdr W3;rw[←hW4];clear hW4;obtain⟨Z4,BS,AY⟩:=zh3 (Z3.below B4.o Z3.lt) (AW.call B4.o) (AI.trans (B4.mono AI.size));have A6:=zh1 (B0.trans (AY.mono B0.size));go_upto_region 14 with(fail)
   obtain⟨us,hus⟩:=xeq x.used;obtain⟨st,hstt⟩:=xeq x.store;have hub:=BR.used;have hsb:=BR.store;rw[hus]at T5 hub;rw[hstt]at T2 hsb;obtain⟨AZ,AN,CH,CA,B6⟩:=zh5 hus hstt hub hsb (qqr HS.tres 16);have u1:IntKind.u64.wrap (us:Int)=(us:Int):=tBa _ zo;have u2:IntKind.u64.wrap (st:Int)=(st:Int):=tBa _ zo;have u3:IntKind.u64.wrap ((us:Int)+((nf:Int)+16))=(us:Int)+((nf:Int)+16):=tBa _ zo;clear hus hstt;by_cases hful:st<us+(nf+16)
   ·
    have p1:(st:Int)<(us:Int)+((nf:Int)+16):=zo;have hdo:qmn c s R t=(s,rWhy 26):=by
     unfold qmn;rw[if_neg (by rw[A8.o,AH.o];have:=AG.o;omega),AM.o];simp only[];rw[AR.o];simp only[];rw[if_neg (by rw[AC.o,A7.o];exact AX.o),AE.o];simp only[];rw[if_pos (.inl (by rw[AZ.o,AN.o,AD.o];exact hful))]
    have A0:=zh1 hdo;clear hdo hful;obtain⟨S,HS9⟩:=zS fun w'=>Below W4.heap.size W4 w'
    refine zrs S 29 (zq 0 18 ((19,false)::zq 21 6 [(18,true),(20,false),(27,false),(28,false)])) ((HS9.o _).mpr ((tA5 _ _).drew)) ?_;obtain⟨F0,F1⟩:=zh2 (zF HS9 (qai T5.o A6.o)) (zF HS9 (qai T2.o A6.o));iterate 25 (first|refine zsk ?_|refine zr2 ?_)
    refine qr1 rfl rfl ⟨(HS9.o _).mpr (tA5 _ _).drew,?_⟩;try simp only[Act.put,tA0,tA1,tA2]
    iterate 3 (first|refine zsk ?_|refine zrb ?_)
    refine qbf ?_;clear HS9 F0 F1;obtain⟨W5,hW5,B5⟩:=zdr W4;rw[←hW5];clear hW5;obtain⟨Z5,B7⟩:=zh2 (Z4.below B5.o Z4.lt) (BS.call B5.o);clear p1 u1 u2 u3;go_wp2_with fail
    exact qr6 A0 HK (A5.o) (qqe 26 W5) (Z5.o) (B7.o)
   have p1:¬(st:Int)<(us:Int)+((nf:Int)+16):=zo;have AO:=zh1 hful;clear hful;obtain⟨S,HS9⟩:=zS fun w'=>Below W4.heap.size W4 w'
   refine zrs S 29 (zq 0 18 ((19,false)::zq 21 6 [(18,true),(20,false),(27,false),(28,false)])) ((HS9.o _).mpr ((tA5 _ _).drew)) ?_;obtain⟨F0,F1,F2⟩:=zh3 (zF HS9 (qai T5.o A6.o)) (zF HS9 (qai T2.o A6.o)) (zF HS9 (qai H.c2 A6.o));have cst:=HC.store;have u4:IntKind.u64.wrap (c.store:Int)=(c.store:Int):=tBa _ zo;iterate 17 (refine zr3 ?_)
   obtain⟨FS,SI⟩:=zh2 (fun(w':World)(h:S w')=>(H.call (A6.trans (((HS9.o w').mp h).mono A6.size))).stRange) (show (Tryz.prog.info? 49).map (·.size)=some 6 by kernel_rfl);refine qo9 rfl rfl 49 (.tmp 105) rfl g 4 rfl _ _ FS.o Tryz.underlying49 rfl SI.o ?_;try simp only[Act.put,tA0,tA1,tA2]
   iterate 7 (refine zr3 ?_)
   obtain⟨Wf,hWf,BF⟩:=zdr W4;rw[←hWf];clear hWf;refine zw ?_;go_simp;have HF:=H.call (A6.trans (BF.mono A6.size));refine(qqt s L col k css Wf HS.o HF.st).mono ?_;clear HF;rintro e W5 ⟨rfl,b5⟩;have B5:=zh1 (BF.trans (b5.mono BF.size));clear b5;refine⟨(HS9.o _).mpr B5.o,zput ?_⟩;obtain⟨sd,hsd⟩:=xeq (stored s);have hsdb:=B6.o;rw[qqs s HS.o,hsd]at hsdb;rw[hsd];have u5:IntKind.u64.wrap ((sd:Int)+((nf:Int)+16))=(sd:Int)+((nf:Int)+16):=tBa _ zo;have BT:=zh1 hsd;clear hsd;iterate 3 (refine zrb ?_)
   refine qbf ?_;clear HS9 F0 F1 F2 FS;obtain⟨Z5,B7,AS⟩:=zh3 (Z4.below B5.o Z4.lt) (BS.call B5.o) (A6.trans (B5.mono A6.size));by_cases hful:c.store<sd+(nf+16)
   ·
    have p2:(c.store:Int)<(sd:Int)+((nf:Int)+16):=zo;have hdo:qmn c s R t=(s,rWhy 26):=by
     unfold qmn;rw[if_neg (by rw[A8.o,AH.o];have:=AG.o;omega),AM.o];simp only[];rw[AR.o];simp only[];rw[if_neg (by rw[AC.o,A7.o];exact AX.o),AE.o];simp only[];rw[if_pos (.inr (by rw[BT.o,AD.o];exact hful))]
    have A0:=zh1 hdo;clear hdo hful p1 u1 u2 u3 u4 u5;go_wp2_with fail
    exact qr6 A0 HK (A5.o) (qqe 26 W5) (Z5.o) (B7.o)
   have p2:¬(c.store:Int)<(sd:Int)+((nf:Int)+16):=zo;have B8:=zh1 hful;clear hful u1 u2 u3 u4 u5;have hfit:us+(nf+16)<4294967296:=by have:=AO.o;have:=CA.o;omega
   have H5:=H.call AS.o;have v1:IntKind.u32.wrap ((nf:Int)+16)=(nf:Int)+16:=tBf _ zo;have v2:IntKind.u32.wrap ((us:Int)+((nf:Int)+16))=((us+(nf+16):Nat):Int):=by rw[tBf _ zo];omega
   have t5:=qai T5.o AS.o;have f5:=H5.st.tens.frozen (m*6+5);have M6:=H5.tenOver HK.o HS.o HX.o (j:=5) (cs:=[.int .u32 ((us+(nf+16):Nat):Int)]) (fun x=>{x with used:=us+(nf+16)}) zm (by simp[over,tenv]);rw[show (W5.setCells L.tg (m*6+5) [.int .u32 ((us+(nf+16):Nat):Int)])=W5.setCell ⟨L.tg,m*6+5,none⟩ (.int .u32 ((us+(nf+16):Nat):Int)) from rfl]at M6;have T6:Turns (inP k) w col (W5.setCell ⟨L.tg,m*6+5,none⟩ (.int .u32 ((us+(nf+16):Nat):Int))) col:=(Turns.of_below _ AS.o).trans (Turns.setCell _ (by rw[H5.st.tens.1];unfold inP;simp));have ecast:((us+(nf+16):Nat):Int)=(us:Int)+((nf:Int)+16):=by simp
   rw[ecast]at M6 T6;obtain⟨BU,BV,CB⟩:=zh3 M6 T6 (show L.tg≠w.heap.size+1∧L.tg≠w.heap.size by have:=H.st.tens.lt;omega);clear M6 T6 H5;go_upto_region 17 with(fail)
   clear v1 v2 t5 f5 p1 p2 ecast;obtain⟨W6,hW6⟩:=eqx (W5.setCell ⟨L.tg,m*6+5,none⟩ (.int .u32 ((us:Int)+((nf:Int)+16))));have hSet:Turns (· ==k) W5 col W6 col:=by rw[hW6];exact Turns.setCell _ (by rw[H.st.tens.1];simp)
   have hsz6:W6.heap.size=W5.heap.size:=by rw[hW6];simp
   have z6:Blk W6 (w.heap.size+1) 57 Tryz.zeroCells57:=by rw[hW6];exact Z5.far (Ne.symm CB.o.1) _
   rw[←hW6]at BU BV;try rw[←hW6]
   have colR:col L.rg=k+1:=H.st.tres.1;have colW:col w.heap.size=0:=by
    by_cases e:col w.heap.size=0
    · exact e
    have:=H.fin _ e;omega
   have B9:=AY.trans (B5.mono AY.size);have c6:=qo8 (qai C6.o B9) hSet (by rw[colR];simp);have k47:=qo8 (qai AL.o B9) hSet (by rw[colW];rcases HK.o with rfl|rfl<;>rfl);obtain⟨AT,AB,Z6,BC,CR,CW⟩:=zh6 c6 k47 z6 hsz6 colR colW;clear hW6 hSet z6 c6 k47 B9 hsz6 colR colW;obtain⟨S,HS9⟩:=zS fun w'=>w'.cell? ⟨L.rg,n*75+6,none⟩=some (.slice Aq nq cq)∧w'.cell? ⟨w.heap.size,47,none⟩=some (.slice Al nf cl)
   refine zrs S 12 (zq 0 7 [(7,true),(8,true),(9,true),(10,false),(11,false),(12,true)]) ((HS9.o _).mpr (⟨AT.o,AB.o⟩)) ?_;obtain⟨F0,F1⟩:=zh2 (fun(w':World)(h:S w')=>((HS9.o w').mp h).1) (fun(w':World)(h:S w')=>((HS9.o w').mp h).2);iterate 7 (refine zr2 ?_)
   obtain⟨Wd6,hWd6,A4⟩:=zdr W6;rw[←hWd6];clear hWd6;have ML:=zh1 (BU.call A4.o);have BG:=BV.trans (Turns.of_below (inP k) A4.o);have rlf:Reads Wd6 Wd6.heap.size 1 Al nf (byv R.leaf):=qr3 AV.o (fun h=>HR.leaf0 (by rw[AD.o];exact h)) BG (qr2 HK.o);have BH:=zh1 BG;have CL:=qsn Al nf cl (byv R.leaf) Wd6 rlf zo (qau _);have CC:=zh1 CL;clear CL rlf BG;refine zw ?_;go_simp;refine CC.o.mono ?_;rintro e wA ⟨vA,rfl,oA,bA⟩;have oA':OwnB wA Wd6.heap.size vA R.leaf:=by unfold OwnB;rw[AD.o];exact oA
   obtain⟨AA,nA,cA,rfl,-,-,-⟩:=oA'.sl;obtain⟨col1,hc1,tx1,fin1⟩:=qra (w:=Wd6) (col:=col) oA' (tA4 _) bA.size ML.fin;have T1:Turns (fun _=>false) Wd6 col wA col1:=(Turns.of_below _ bA).recolour hc1;obtain⟨CD,CE,BI,BA⟩:=zh4 tx1 fin1 T1 bA;clear tx1 fin1 T1 bA oA oA' hc1;refine⟨(HS9.o _).mpr ⟨qo8 (qai AT.o A4.o) BI.o rfl,qo8 (qai AB.o A4.o) BI.o rfl⟩,zput ?_⟩;refine zw ?_;go_simp;obtain⟨wB,hwB⟩:=eqx (wA.alloc (.cells #[.slice AA nA cA] 23));rw[←hwB];have bB:Below wA.heap.size wA wB:=by rw[hwB];exact qah (tA5 _ _) _
   have blB:Blk wB wA.heap.size 23 #[.slice AA nA cA]:=by rw[hwB];exact Blk.new wA _ _
   have TB:=BI.trans (Turns.of_below (fun _=>false) bB);obtain⟨BB,BW,A3⟩:=zh3 bB blB TB;clear hwB bB blB TB;refine⟨(HS9.o _).mpr ⟨qo8 (qai AT.o A4.o) A3.o rfl,qo8 (qai AB.o A4.o) A3.o rfl⟩,zput ?_⟩;have MB:=ML.keep A3.o rfl rfl rfl rfl rfl (fun _ _=>rfl) (CE.mono BB.size);have AF:css[n]? =some (trev t (.slice Ad t.draws.length cd) (.slice Al' nl cl') (.slice Aq nq cq)):=by rw[C2.o,AC.o,A7.o]
   obtain⟨vs,hrow,htx⟩:=(MB.rows HT.o AF).2.2;rw[A7.o]at hrow;have hvl:vs.length=t.queue.length:=by have:=hrow.1;have:=A7.o;omega
   obtain⟨i0,hi0,hz0,hz1,hz2⟩:=info_parts Tryz.madd_info;have hr1:Reads wB wB.heap.size 1 (some ⟨wA.heap.size,0,none⟩) 1 [.slice AA nA cA]:=⟨rfl,fun _=>⟨_,rfl,BW.lt,fun j u hu=>by rw[Addr.add_mid,BW.cell (0+j)];simpa using hu⟩⟩;have BX:=CD.keep ((Turns.of_below (col:=col1) (fun _=>false) BB.o).keeps rfl);have colR1:col1 L.rg=k+1:=(A3.same L.rg ML.st.tres.lt).trans CR.o;have hws:w.heap.size<Wd6.heap.size:=by have:=AS.size;have:=BC.o;have:=A4.size;have:=Z0.lt;have:=Z6.lt;omega
   have colW1:col1 w.heap.size=0:=(A3.same w.heap.size hws).trans CW.o;have hn16:n<16:=by have h1:=HT.o;obtain⟨h2,_⟩:=tA8 h1;rw[HS.tresn]at h2;exact h2
   have hx:∀x,s.tens[m]? =some x→x.Ok→({x with used:=us+(nf+16)}:Ten).Ok:=fun x _ h=>⟨h.rate,h.burst,h.tok,h.store,hfit⟩
   have sok:=HS.setX hx;refine zw ?_;refine qnc wB (.tmp 132) (.tmp 136) _ _ rfl col1 (12+3*n) 23 i0 _ 1 24 Tryz.underlying72 hi0 hz0 hz1 hz2 rfl (.slice Aq nq cq) nq vs rfl hrow (.slice (some ⟨wA.heap.size,0,none⟩) 1 1) 1 [.slice AA nA cA] rfl (Src.reads wB Tryz.underlying72 hr1 (by simp[Value.oneCell']) zdc) (by simp only[maxLen];omega) zo ?_;intro v' wC col2 ap;obtain⟨A9,c9,rfl,-,-,-,-⟩:=ap.row.sl;have ap2:AppendedC wB col1 wC col2 (12+3*n) (.slice Aq nq cq) (.slice A9 (nq+1) c9) 23 1 t.queue.length 1 vs [.slice AA nA cA]:=by rw[A7.o];exact ap
   obtain⟨N1,N2,N3⟩:=MB.queueAdd HK.o sok (t:=t) (bs:=R.leaf) HT.o AF hvl htx BX ap2;have hcC:=qo8 (qo8 (qai AT.o A4.o) A3.o rfl) ap.turns (by rw[colR1];have:=HK.o;rcases this with rfl|rfl<;>simp<;>omega);have hkC:=qo8 (qo8 (qai AB.o A4.o) A3.o rfl) ap.turns (by rw[colW1];simp;omega);have hfC:=(MB.st.tres.keep (ap.turns.keeps (k:=k+1) (by have:=HK.o;rcases this with rfl|rfl<;>simp<;>omega))).frozen (n*75+6);have sC:w.heap.size+1<wC.heap.size:=by have:=ap.turns.size;have:=A3.size;have:=A4.size;have:=Z6.lt;omega
   have zC:Blk wC (w.heap.size+1) 57 Tryz.zeroCells57:=by
    have z7:=Z6.below A4.o Z6.lt;have c1:col1 (w.heap.size+1)=0:=(A3.same _ z7.lt).trans A5.o;have z8:Blk wB (w.heap.size+1) 57 Tryz.zeroCells57:=(A3.block _ z7.lt rfl).trans z7;exact(ap.turns.block _ z8.lt (by rw[c1];simp;omega)).trans z8
   have g2:col2 (w.heap.size+1)=0:=by
    have z7:=Z6.below A4.o Z6.lt;exact(ap.turns.same _ (tB0 z7.lt A3.size)).trans ((A3.same _ z7.lt).trans A5.o)
   have T9:=(BH.trans (A3.mono fun i h=>by cases h)).trans N3;have hdo:qmn c s R t=((s.setX m fun x=>{x with used:=us+(nf+16)}).setT n fun t=>{t with queue:=t.queue++[R.leaf]},qml (nl+nq)):=by
    unfold qmn;rw[if_neg (by rw[A8.o,AH.o];have:=AG.o;omega),AM.o];simp only[];rw[AR.o];simp only[];rw[if_neg (by rw[AC.o,A7.o];exact AX.o),AE.o];simp only[];rw[if_neg (by rw[AZ.o,AN.o,BT.o,AD.o];have:=AO.o;have:=B8.o;omega),HM.o,A8.o,tBe,tBe,AC.o,A7.o];congr 2
    unfold Sta.setX;congr 1
    refine qr7 fun y hy=>?_
    rw[HX.o]at hy;injection hy with hy;subst hy;rw[AZ.o,AD.o,Nat.mod_eq_of_lt hfit]
   have BJ:Did w col (wC.setCell ⟨L.rg,n*75+6,none⟩ (.slice A9 (nq+1) c9)) col2 k g c css s (qmn c s R t).1:=by
    rw[hdo];exact⟨⟨L,_,N1⟩,N2,T9⟩
   rw[hdo]at BJ;obtain⟨A0,BY⟩:=zh2 hdo BJ;have zD:Blk (wC.setCell ⟨L.rg,n*75+6,none⟩ (.slice A9 (nq+1) c9)) (w.heap.size+1) 57 Tryz.zeroCells57:=zC.far (by intro e;have e':w.heap.size+1=L.rg:=e;rw[←e']at colR1;have:=(A3.same _ (Z6.below A4.o Z6.lt).lt).trans A5.o;omega) _;obtain⟨BZ,CF⟩:=zh2 zD g2;have hb1:=AP.o;clear hdo BJ T9 N1 N2 N3 zD zC g2 ap ap2 hi0 hz0 hz1 hz2 hr1 hrow hvl htx BX MB AF hx sok colR1 colW1 hws sC hfit A8 BL;refine⟨fun _=>(HS9.o _).mpr ⟨hcC,hkC⟩,zput ?_⟩;have F0:=zh1 (fun(w':World)(h:S w')=>((HS9.o w').mp h).1);iterate 2 (refine zr1 ?_)
   clear hkC;refine zw ?_;go_simp;refine qbf ?_;clear HS9 F0 hcC hfC;obtain⟨W9,hW9⟩:=eqx (wC.setCell ⟨L.rg,n*75+6,none⟩ (.slice A9 (nq+1) c9));rw[←hW9]at BY BZ ⊢;clear hW9;go_wp2_with fail
   rw[show ((nl:Int)+nq)=((nl+nq:Nat):Int) by omega];exact qr6 A0 HK (CF.o) (qqd (nl+nq) W9 zo) (BZ.o) (BY.o)
theorem Did.cell {w W:World}{col:Col}{k g:Nat}{c:Cfg}{s s':Sta}{L:Loc}{css css':List (List Value)}(h:Mdl w col k g c s L css)(hb:Below w.heap.size w W){b o:Nat}{v:Value}(hc:inP k (col b)=true)(hn:col b<10∧col b≠5)
 (hm:Mdl (W.setCell ⟨b,o,none⟩ v) col k g c s' L css'):Did w col (W.setCell ⟨b,o,none⟩ v) col k g c css s s':=by
 have hT:Turns (· ==col b) W col (W.setCell ⟨b,o,none⟩ v) col:=Turns.setCell v zm;have hT2:Turns (inP k) W col (W.setCell ⟨b,o,none⟩ v) col:=hT.mono fun i hi=>(show i=col b by simpa using hi)▸hc
 exact⟨⟨L,css',hm⟩,(h.call hb).st.trs.keep fun i hi=>hT.keeps (by simp;omega),(Turns.of_below _ hb).trans hT2⟩
theorem qsv (c:Cfg)(s:Sta)(L:Loc)(col:Col)(k g:Nat)(css:List (List Value))(R:Req)(Ac:Option Addr)(cc:Nat)(Al:Option Addr)(cl:Nat)(w:World)(hk:Kind k)(hs:s.Ok)(h:Mdl w col k g c s L css)
 (hr:Asked w col R Ac cc Al cl):
 Zc 139 #[.pointer (some ⟨g,0,none⟩),.agg (reqv R (.slice Ac R.cavs.length cc) (.slice Al R.leaf.length cl)).toArray] w fun e w'=>∃v col',e=.returned v∧RspV w' col' w.heap.size v (qmu s R).2∧Did w col w' col' k g c css s (qmu s R).1:=by
 obtain⟨Q,hQ,rlen,rest,W0,hW0,q0,z0,b0⟩:=qr5 R Ac cc Al cl w hr.good.tag;rw[hQ];have hG0:=h.fin.none (b:=w.heap.size+1) zo;have D0:=Did.same (css:=css) h b0;obtain⟨H,AC,Q0,Z0,B0,A1,AD,HK⟩:=zh8 h hW0 q0 z0 b0 hG0 D0 hk;obtain⟨HS,HR,RL,A4,HQ⟩:=zh5 hs hr rlen rest hQ;clear h hW0 q0 z0 b0 hG0 D0 hk hs hr rlen rest hQ;obtain⟨i,hi⟩:=xeq R.id;have k40:=(Q0.cell 40).trans (show Q.toArray[40]? =some (.int .u32 (i:Int)) by rw[tA3,←hi];exact A4.o 5);have ib:i<4294967296:=by rw[←hi];exact HR.good.id
 obtain⟨ng,hng⟩:=xeq s.gras.length;have gb:ng≤64:=by rw[←hng];exact HS.grasn
 have c9:=H.c9;rw[hng]at c9;obtain⟨A2,C9,HI,A9⟩:=zh4 k40 (qai c9 B0.o) hi hng;clear k40 c9 hi hng;have u1:IntKind.u64.wrap (i:Int)=(i:Int):=tBa _ zo;have u2:IntKind.u64.wrap (ng:Int)=(ng:Int):=tBa _ zo;go_enter Tryz.func139,Tryz.ntmps139
 go_upto_region 1 with(fail)
 rw[←AC.o];obtain⟨S,HS9⟩:=zS fun w'=>Below W0.heap.size W0 w'
 refine zrs S 12 (zq 0 12 []) ((HS9.o _).mpr ((tA5 _ _).drew)) ?_;obtain⟨F0,F1⟩:=zh2 (zF HS9 A2.o) (zF HS9 C9.o);iterate 12 (refine zr2 ?_)
 refine qbf ?_;clear HS9 F0 F1;obtain⟨W1,hW1,B1⟩:=zdr W0;rw[←hW1];clear hW1;obtain⟨Z1,A5⟩:=zh2 (Z0.below B1.o Z0.lt) (AD.call B1.o);by_cases hge:ng≤i
 ·
  have p1:(ng:Int)≤i:=zo;have hdo:qmu s R=(s,rWhy 23):=by
   unfold qmu;rw[HI.o,List.getElem?_eq_none (by rw[A9.o];exact hge)]
  have A0:=zh1 hdo;clear hdo hge u1 u2;go_wp2_with fail
  exact qr6 A0 HK (A1.o) (qqe 23 W1) (Z1.o) (A5.o)
 have p1:¬(ng:Int)≤i:=zo;have plt:i<ng:=zo;have plt2:(i:Int)<ng:=zo;obtain⟨x,hx⟩:∃x,s.gras[i]? =some x:=⟨_,tA7 (by rw[A9.o];exact plt)⟩;have gcell:w.cell? ⟨L.gg,i*4+3,none⟩=some (.bool x.revoked):=H.st.gras.cell ((qnm hx zo).trans rfl);obtain⟨HX,A6⟩:=zh2 hx gcell;clear hge hx gcell;go_upto_region 3 with(fail)
 obtain⟨S,HS9⟩:=zS fun w'=>Below W1.heap.size W1 w'
 refine zrs S 16 (zq 0 16 []) ((HS9.o _).mpr ((tA5 _ _).drew)) ?_;obtain⟨F0,F1,F2⟩:=zh3 (zF HS9 (qai A2.o B1.o)) (zF HS9 (qai C9.o B1.o)) (zF HS9 (qai (qai A6.o B0.o) B1.o));by_cases h0:i=0
 ·
  subst h0;have hdo:qmu s R=(s,rWhy 24):=by
   unfold qmu;rw[HI.o,HX.o];simp
  have A0:=zh1 hdo;clear hdo u1 u2;iterate 14 (first|refine zsk ?_|refine zr1 ?_)
  iterate 2 (refine zrb ?_)
  refine qbf ?_;clear HS9 F0 F1 F2;obtain⟨W2,hW2,B2⟩:=zdr W1;rw[←hW2];clear hW2;obtain⟨Z2,A7⟩:=zh2 (Z1.below B2.o Z1.lt) (A5.call B2.o);go_wp2_with fail
  exact qr6 A0 HK (A1.o) (qqe 24 W2) (Z2.o) (A7.o)
 have qi:((i:Int)==0)=false:=by simp;omega
 have q0:(0:Int)≤i:=zo;obtain⟨rv,hrv⟩:=xeq x.revoked;rw[hrv]at A6 F2;iterate 16 (refine zr3 ?_)
 refine qbf ?_;clear HS9 F0 F1 F2;obtain⟨W2,hW2,B2⟩:=zdr W1;rw[←hW2];clear hW2;obtain⟨Z2,A7⟩:=zh2 (Z1.below B2.o Z1.lt) (A5.call B2.o);cases rv with
 |true=>
  have hdo:qmu s R=(s,rWhy 24):=by
   unfold qmu;rw[HI.o,HX.o];simp[hrv]
  have A0:=zh1 hdo;clear hdo u1 u2;go_wp2_with fail
  exact qr6 A0 HK (A1.o) (qqe 24 W2) (Z2.o) (A7.o)
 |false=>
  have hdo:qmu s R=({s with gras:=s.gras.modify i fun g=>{g with revoked:=true}},qml i):=by
   unfold qmu;rw[HI.o,HX.o];simp only[];rw[if_neg (by simp[hrv];omega)]
  obtain⟨A0,A8⟩:=zh2 hdo (B0.trans ((B1.trans (B2.mono B1.size)).mono B0.size));clear hdo u1 u2;go_upto_region 5 with(fail)
  have c9:=qai C9.o (B1.trans (B2.mono B1.size));have H2:=H.call A8.o;obtain⟨HF,HC⟩:=zh2 (fun(w':World)(hb:Below w.heap.size w w')=>(H.call hb).st.gras.frozen (i*4+3)) (fun(w':World)(hb:Below w.heap.size w w')=>qai A6.o hb);clear H2 c9;obtain⟨S,HS9⟩:=zS fun w'=>Below W2.heap.size W2 w'
  refine zrs S 9 (zq 0 9 [(9,true)]) ((HS9.o _).mpr ((tA5 _ _).drew)) ?_;obtain⟨F0,F1⟩:=zh2 (zF HS9 (qai (qai A2.o B1.o) B2.o)) (zF HS9 (qai (qai C9.o B1.o) B2.o));iterate 9 (refine zr2 ?_)
  clear HS9 F0 F1;obtain⟨W3,hW3,B3⟩:=zdr W2;rw[←hW3];clear hW3;obtain⟨A3,Z3⟩:=zh2 (A8.trans (B3.mono A8.size)) (Z2.below B3.o Z2.lt);have hf:=HF.o _ A3.o;have hc:=HC.o _ A3.o;have M6:=(H.call A3.o).graOver HK.o HX.o (j:=3) (cs:=[.bool true]) (fun x=>{x with revoked:=true}) zm (by simp[over,grav]);rw[show W3.setCells L.gg (i*4+3) [.bool true]=W3.setCell ⟨L.gg,i*4+3,none⟩ (.bool true) from rfl]at M6;have cg:col L.gg=k+2:=H.st.gras.1;have D9:=Did.cell H.o A3.o (by rw[cg];unfold inP;simp) (by rw[cg];have:=HK.o;rcases this with rfl|rfl<;>omega) M6;have zD:Blk (W3.setCell ⟨L.gg,i*4+3,none⟩ (.bool true)) (w.heap.size+1) 57 Tryz.zeroCells57:=Z3.far (by intro e;have e':w.heap.size+1=L.gg:=e;rw[←e']at cg;have:=A1.o;omega) _;have kD:(W3.setCell ⟨L.gg,i*4+3,none⟩ (.bool true)).cell? ⟨w.heap.size,40,none⟩=some (.int .u32 (i:Int)):=
   qo8 (p:=(· ==k+2)) (qai A2.o ((B1.trans (B2.mono B1.size)).trans (B3.mono (tB1 B1.size B2.size)))) (Turns.setCell (col:=col) (.bool true) (by simp[cg])) (by
    by_cases e:col w.heap.size=0
    · rw[e];simp
    have:=H.fin _ e;omega)
  obtain⟨AA,AB⟩:=zh2 D9 zD;clear M6 cg D9 zD;refine zw ?_;go_simp;refine qbf ?_;clear hf hc;obtain⟨W9,hW9⟩:=eqx (W3.setCell ⟨L.gg,i*4+3,none⟩ (.bool true));rw[←hW9]at AA AB kD ⊢;clear hW9;have v1:IntKind.i64.wrap (i:Int)=(i:Int):=tBb _ zo;have v2:wrap64 (i:Int)=(i:Int):=IntWalk.wrap64_in _ zo;go_wp2_with fail
  exact qr6 A0 HK (A1.o) (qqd i W9 zo) (AB.o) (AA.o)
theorem Did.turned {w W W':World}{col col':Col}{k kk g:Nat}{c:Cfg}{s s':Sta}{L L':Loc}{css css':List (List Value)}(h:Mdl w col k g c s L css)(hb:Below w.heap.size w W)(hT:Turns (· ==kk) W col W' col')(hc:inP k kk=true)(hn:kk<10∧kk≠5)
 (hm:Mdl W' col' k g c s' L' css'):Did w col W' col' k g c css s s':=by
 have hT2:Turns (inP k) W col W' col':=hT.mono fun i hi=>(show i=kk by simpa using hi)▸hc
 exact⟨⟨L',css',hm⟩,(h.call hb).st.trs.keep fun i hi=>hT.keeps (by simp;omega),(Turns.of_below _ hb).trans hT2⟩
theorem qsw {α:Type}{f g:α→α}:∀(l:List α) (n:Nat),(l.modify n f).modify n g=l.modify n fun x=>g (f x)
 |[],n=>by simp
 |x::l,0=>by simp
 |x::l,n+1=>by simp[qsw l n]
theorem qsx (c:Cfg)(s:Sta)(L:Loc)(col:Col)(k g:Nat)(css:List (List Value))(R:Req)(Ac:Option Addr)(cc:Nat)(Al:Option Addr)(cl:Nat)(w:World)(hk:Kind k)(hs:s.Ok)(h:Mdl w col k g c s L css)
 (hr:Asked w col R Ac cc Al cl):
 Zc 140 #[.pointer (some ⟨g,0,none⟩),.agg (reqv R (.slice Ac R.cavs.length cc) (.slice Al R.leaf.length cl)).toArray] w fun e w'=>∃v col',e=.returned v∧RspV w' col' w.heap.size v (qmv s R).2∧Did w col w' col' k g c css s (qmv s R).1:=by
 obtain⟨Q,hQ,rlen,rest,W0,hW0,q0,z0,b0⟩:=qr5 R Ac cc Al cl w hr.good.tag;rw[hQ];have hG0:=h.fin.none (b:=w.heap.size+1) zo;have D0:=Did.same (css:=css) h b0;obtain⟨H,AC,Q0,Z0,B0,A4,A6,HK⟩:=zh8 h hW0 q0 z0 b0 hG0 D0 hk;obtain⟨HS,HR,RL,A3,HQ⟩:=zh5 hs hr rlen rest hQ;clear h hW0 q0 z0 b0 hG0 D0 hk hs hr rlen rest hQ;obtain⟨n,hn⟩:=xeq R.tenant;obtain⟨rt,hrt⟩:=xeq R.rate;obtain⟨bt,hbt⟩:=xeq R.burst;obtain⟨st,hst⟩:=xeq R.store;have k36:=(Q0.cell 36).trans (show Q.toArray[36]? =some (.int .i64 n) by rw[tA3,←hn];exact A3.o 1);have k43:=(Q0.cell 43).trans (show Q.toArray[43]? =some (.int .u32 (rt:Int)) by rw[tA3,←hrt];exact A3.o 8);have k44:=(Q0.cell 44).trans (show Q.toArray[44]? =some (.int .u32 (bt:Int)) by rw[tA3,←hbt];exact A3.o 9);have k45:=(Q0.cell 45).trans (show Q.toArray[45]? =some (.int .u32 (st:Int)) by rw[tA3,←hst];exact A3.o 10);obtain⟨A5,AD,AE,AF,AI,HN,A7,A8⟩:=zh8 k36 k43 k44 k45 (qqf n c s L col k g css W0 (H.call B0.o)) hn hrt hbt;obtain⟨AJ,AK⟩:=zh2 hst (show st<4294967296 by rw[←hst];exact HR.good.store);rw[AC.o]at k36;clear hn hrt hbt hst k43 k44 k45;go_enter Tryz.func140,Tryz.ntmps140
 go_wp2_with fail
 rw[←AC.o];refine AI.o.mono ?_;rintro e w' ⟨rfl,rfl⟩;clear k36;by_cases h16:0≤n∧n<16
 ·
  rw[if_pos h16];obtain⟨m,rfl⟩:∃m:Nat,n=m:=⟨n.toNat,by omega⟩;rw[tBe];have k43:=AD.o;have k44:=AE.o;obtain⟨x,hx⟩:∃x,s.tens[m]? =some x:=⟨_,tA7 (by rw[HS.tensn];omega)⟩;have hten:s.tenant R.tenant=some x:=by unfold Sta.tenant;rw[HN.o,if_pos zo,tBe];exact hx
  obtain⟨HX,A0⟩:=zh2 hx hten;clear hx hten;go_wp2_with fail
  clear k43 k44;by_cases hq:rt≤1048576∧bt≤1048576
  ·
   refine zcb (qq3 (rt:Int) (bt:Int) _ zo zo) fun w1 b1=>?_
   have B1:=zh1 b1;clear b1;go_upto_region 3 with(fail)
   obtain⟨W2,hW2⟩:=eqx (w1.alloc (.cells #[.int .u32 (rt:Int),.int .u32 (bt:Int),.int .u32 (bt:Int)] 90));rw[←hW2];have q2:Blk W2 w1.heap.size 90 #[.int .u32 (rt:Int),.int .u32 (bt:Int),.int .u32 (bt:Int)]:=by rw[hW2];exact Blk.new w1 _ _
   have b2:Below W0.heap.size W0 W2:=by rw[hW2];exact qah B1.o _
   obtain⟨Z2,A2,Q2,B2⟩:=zh4 (Z0.below b2 Z0.lt) (A6.call b2) q2 b2;clear hW2 q2 b2;have k36:=qai A5.o B2.o;by_cases h0:m=0
   ·
    subst h0;have hdo:qmv s R=(s,rWhy 24):=by
     unfold qmv;rw[A0.o];simp only[];rw[if_neg (by rw[A7.o,A8.o];omega),if_pos (by rw[HN.o];rfl)]
    have A1:=zh1 hdo;clear hdo;go_wp2_with fail
    exact qr6 A1 HK (A4.o) (qqe 24 W2) (Z2.o) (A2.o)
   have qm:((m:Int)==0)=false:=by simp;omega
   have hdo:qmv s R=(s.setX m fun x=>{x with on:=true,rate:=rt,burst:=bt,tok:=bt,store:=st},qml m):=by
    unfold qmv;rw[A0.o];simp only[];rw[if_neg (by rw[A7.o,A8.o];omega),if_neg (by rw[HN.o];omega),HN.o,A7.o,A8.o,AJ.o,tBe]
   obtain⟨A1,AG,AH⟩:=zh3 hdo hq h16;clear hdo hq h16;go_upto_region 7 with(fail)
   clear k36;have cT:col L.tg=k:=H.st.tens.1;have HB:=zh1 (B0.trans (B2.mono B0.size));have cW:col w.heap.size=0:=by
    by_cases e:col w.heap.size=0
    · exact e
    have:=H.fin _ e;omega
   have sQ:w.heap.size<w1.heap.size:=by have:=B1.size;have:=Z0.lt;omega
   have cQ:col w1.heap.size=0:=by
    by_cases e:col w1.heap.size=0
    · exact e
    have:=H.fin _ e;omega
   have k0:k≠0:=by have:=HK.o;rcases this with rfl|rfl<;>omega
   obtain⟨CT,CW,CQ,K0⟩:=zh4 cT cW cQ k0;clear cT cW sQ cQ k0;obtain⟨S,HS9⟩:=zS fun w'=>Turns (· ==k) W2 col w' col
   refine zrs S 14 (zq 0 8 [(8,true),(9,false),(10,false),(11,true),(12,false),(13,false),(14,true)]) ((HS9.o _).mpr (Turns.of_below _ (tA5 _ _).drew)) ?_;obtain⟨F0,FQ⟩:=zh2 (fun(w':World)(h:S w')=>qo8 (qai AF.o B2.o) ((HS9.o w').mp h) (by rw[CW.o];have:=K0.o;simp;omega)) (fun(w':World)(h:S w')=>qap (l:=[.int .u32 (rt:Int),.int .u32 (bt:Int),.int .u32 (bt:Int)]) ((((HS9.o w').mp h).block _ Q2.lt (by rw[CQ.o];have:=K0.o;simp;omega)).trans Q2.o) 0 _ (fun j u h=>by simpa using h));iterate 3 (refine zr1 ?_)
   have HI:=zh1 (show (Tryz.prog.info? 90).map (·.size)=some 3 by kernel_rfl);refine qo9 rfl rfl 90 (.tmp 7) rfl w1.heap.size 0 rfl _ _ FQ.o Tryz.underlying90 rfl HI.o ?_;try simp only[Act.put,tA0,tA1,tA2]
   iterate 4 (refine zr1 ?_)
   clear F0 FQ;obtain⟨W3,hW3,B3⟩:=zdr W2;rw[←hW3];clear hW3;have AL:=zh1 (HB.trans (B3.mono HB.size));have M3:=H.call AL.o;have M4:=M3.tenOver HK.o HS.o HX.o (j:=0) (cs:=[.bool true]) (fun x=>{x with on:=true}) zm (by simp[over,tenv]);have f0:=M3.st.tens.frozen (m*6);have c0:W3.cell? ⟨L.tg,m*6,none⟩=some (.bool x.on):=M3.st.tens.cell ((qnl HX.o (by omega:(0:Nat)<6)).trans rfl);rw[show W3.setCells L.tg (m*6+0) [.bool true]=W3.setCell ⟨L.tg,m*6,none⟩ (.bool true) from rfl]at M4;have T4:Turns (· ==k) W3 col (W3.setCell ⟨L.tg,m*6,none⟩ (.bool true)) col:=Turns.setCell _ (by simp[CT.o]);have AA:=(Turns.of_below (col:=col) (· ==k) B3.o).trans T4;have ok4:(s.setX m fun x=>{x with on:=true}).Ok:=HS.setX fun x _ h=>⟨h.rate,h.burst,h.tok,h.store,h.used⟩
   have x4:(s.setX m fun x=>{x with on:=true}).tens[m]? =some {x with on:=true}:=qo6 _ HX.o;refine zw ?_;go_simp;clear f0 c0;obtain⟨W4,hW4⟩:=eqx (W3.setCell ⟨L.tg,m*6,none⟩ (.bool true));rw[←hW4]at M4 AA ⊢;clear hW4 T4 M3;refine⟨(HS9.o _).mpr AA,zput ?_⟩;iterate 2 (refine zre rfl rfl (fun w1 hS=>by clear hS;go_simp;try rfl) ?_)
   have hth:=M4.st.tens.there (o:=m*6+1) (m:=3) (by rw[qnn,ok4.tensn];have:=AH.o;omega);have M5:=M4.tenOver HK.o ok4 x4 (j:=1) (cs:=[.int .u32 (rt:Int),.int .u32 (bt:Int),.int .u32 (bt:Int)]) (fun x=>{x with rate:=rt,burst:=bt,tok:=bt}) zm (by simp[over,tenv]);have T5:Turns (· ==k) W4 col (W4.setCells L.tg (m*6+1) [.int .u32 (rt:Int),.int .u32 (bt:Int),.int .u32 (bt:Int)]) col:=Turns.setCells _ (by simp[CT.o]);have AB:=AA.trans T5;have ok5:((s.setX m fun x=>{x with on:=true}).setX m fun x=>{x with rate:=rt,burst:=bt,tok:=bt}).Ok:=ok4.setX fun x _ h=>⟨AG.o.1,AG.o.2,tA4 _,h.store,h.used⟩
   have x5:((s.setX m fun x=>{x with on:=true}).setX m fun x=>{x with rate:=rt,burst:=bt,tok:=bt}).tens[m]? =some {x with on:=true,rate:=rt,burst:=bt,tok:=bt}:=qo6 _ x4;refine zw ?_;refine wp_store_mid 90 (.tmp 46) (.tmp 40) rfl L.tg (m*6+1) [.int .u32 (rt:Int),.int .u32 (bt:Int),.int .u32 (bt:Int)].toArray rfl rfl hth zk (by simp[Value.oneCell']) ?_;obtain⟨W5,hW5⟩:=eqx (W4.setCells L.tg (m*6+1) [.int .u32 (rt:Int),.int .u32 (bt:Int),.int .u32 (bt:Int)]);rw[←hW5]at M5 AB ⊢;clear hW5 T5 hth M4 AA;refine⟨fun _=>(HS9.o _).mpr AB,zput ?_⟩;have F0:=zh1 (fun(w':World)(h:S w')=>qo8 (qai AF.o B2.o) ((HS9.o w').mp h) (by rw[CW.o];have:=K0.o;simp;omega));iterate 2 (refine zr1 ?_)
   have f5:=M5.st.tens.frozen (m*6+4);have c5:W5.cell? ⟨L.tg,m*6+4,none⟩=some (.int .u32 (x.store:Int)):=M5.st.tens.cell ((qnl x5 (by omega:(4:Nat)<6)).trans rfl);have M6:=M5.tenOver HK.o ok5 x5 (j:=4) (cs:=[.int .u32 (st:Int)]) (fun x=>{x with store:=st}) zm (by simp[over,tenv]);rw[show W5.setCells L.tg (m*6+4) [.int .u32 (st:Int)]=W5.setCell ⟨L.tg,m*6+4,none⟩ (.int .u32 (st:Int)) from rfl]at M6;have T6:Turns (· ==k) W5 col (W5.setCell ⟨L.tg,m*6+4,none⟩ (.int .u32 (st:Int))) col:=Turns.setCell _ (by simp[CT.o]);have A9:=AB.trans T6;refine zw ?_;go_simp;refine qbf ?_;clear f5 c5 F0;obtain⟨W6,hW6⟩:=eqx (W5.setCell ⟨L.tg,m*6+4,none⟩ (.int .u32 (st:Int)));rw[←hW6]at M6 A9 ⊢;clear hW6 T6 M5 AB HS9;have est:(((s.setX m fun x=>{x with on:=true}).setX m fun x=>{x with rate:=rt,burst:=bt,tok:=bt}).setX m fun x=>{x with store:=st})=(s.setX m fun x=>{x with on:=true,rate:=rt,burst:=bt,tok:=bt,store:=st}):=by
    unfold Sta.setX;simp only[qsw]
   rw[est]at M6;have D9:=Did.turned H.o HB.o A9 (by unfold inP;simp) (by have:=HK.o;rcases this with rfl|rfl<;>omega) M6;have z6:Blk W6 (w.heap.size+1) 57 Tryz.zeroCells57:=(A9.block _ Z2.lt (by rw[A4.o];have:=K0.o;simp;omega)).trans Z2.o;have k36:=qo8 (qai A5.o B2.o) A9 (by rw[CW.o];have:=K0.o;simp;omega);obtain⟨AM,AN⟩:=zh2 D9 z6;clear M6 A9 est D9 z6 ok4 x4 ok5 x5;have hm16:m<16:=by have:=AH.o;omega
   go_wp2_with fail
   exact qr6 A1 HK (A4.o) (qqd m W6 zo) (AN.o) (AM.o)
  by_cases hq1:1048576<rt
  ·
   refine zcb (qq4 (rt:Int) (bt:Int) _ (.inl zo)) fun w1 b1=>?_
   have B1:=zh1 b1;clear b1;go_upto_region 3 with(fail)
   obtain⟨W2,hW2⟩:=eqx (w1.alloc (.cells #[.int .u32 0,.int .u32 0,.int .u32 0] 90));rw[←hW2];have q2:Blk W2 w1.heap.size 90 #[.int .u32 0,.int .u32 0,.int .u32 0]:=by rw[hW2];exact Blk.new w1 _ _
   have b2:Below W0.heap.size W0 W2:=by rw[hW2];exact qah B1.o _
   obtain⟨Z2,A2,Q2,B2⟩:=zh4 (Z0.below b2 Z0.lt) (A6.call b2) q2 b2;clear hW2 q2 b2;have k36:=qai A5.o B2.o;have hdo:qmv s R=(s,rWhy 25):=by
    unfold qmv;rw[A0.o];simp only[];rw[if_pos (by rw[A7.o,A8.o];omega)]
   have A1:=zh1 hdo;clear hdo;go_wp2_with fail
   exact qr6 A1 HK (A4.o) (qqe 25 W2) (Z2.o) (A2.o)
  refine zcb (qq4 (rt:Int) (bt:Int) _ (.inr zo)) fun w1 b1=>?_
  have B1:=zh1 b1;clear b1;go_upto_region 3 with(fail)
  obtain⟨W2,hW2⟩:=eqx (w1.alloc (.cells #[.int .u32 0,.int .u32 0,.int .u32 0] 90));rw[←hW2];have q2:Blk W2 w1.heap.size 90 #[.int .u32 0,.int .u32 0,.int .u32 0]:=by rw[hW2];exact Blk.new w1 _ _
  have b2:Below W0.heap.size W0 W2:=by rw[hW2];exact qah B1.o _
  obtain⟨Z2,A2,Q2,B2⟩:=zh4 (Z0.below b2 Z0.lt) (A6.call b2) q2 b2;clear hW2 q2 b2;have k36:=qai A5.o B2.o;have hdo:qmv s R=(s,rWhy 25):=by
   unfold qmv;rw[A0.o];simp only[];rw[if_pos (by rw[A7.o,A8.o];omega)]
  have A1:=zh1 hdo;clear hdo;go_wp2_with fail
  exact qr6 A1 HK (A4.o) (qqe 25 W2) (Z2.o) (A2.o)
 rw[if_neg h16];have k43:=AD.o;have k44:=AE.o;have hten:s.tenant R.tenant=none:=by
  unfold Sta.tenant;rw[HN.o];by_cases h0:0≤n
  · rw[if_pos h0]
    exact List.getElem?_eq_none (by rw[HS.tensn];omega)
  rw[if_neg h0]
 have A0:=zh1 hten;clear hten;go_wp2_with fail
 clear k43 k44;by_cases hq:rt≤1048576∧bt≤1048576
 ·
  refine zcb (qq3 (rt:Int) (bt:Int) _ zo zo) fun w1 b1=>?_
  have B1:=zh1 b1;clear b1;go_upto_region 3 with(fail)
  obtain⟨W2,hW2⟩:=eqx (w1.alloc (.cells #[.int .u32 (rt:Int),.int .u32 (bt:Int),.int .u32 (bt:Int)] 90));rw[←hW2];have q2:Blk W2 w1.heap.size 90 #[.int .u32 (rt:Int),.int .u32 (bt:Int),.int .u32 (bt:Int)]:=by rw[hW2];exact Blk.new w1 _ _
  have b2:Below W0.heap.size W0 W2:=by rw[hW2];exact qah B1.o _
  obtain⟨Z2,A2,Q2,B2⟩:=zh4 (Z0.below b2 Z0.lt) (A6.call b2) q2 b2;clear hW2 q2 b2;have k36:=qai A5.o B2.o;have hdo:qmv s R=(s,rWhy 25):=by
   unfold qmv;rw[A0.o]
  have A1:=zh1 hdo;clear hdo;go_wp2_with fail
  exact qr6 A1 HK (A4.o) (qqe 25 W2) (Z2.o) (A2.o)
 by_cases hq1:1048576<rt
 ·
  refine zcb (qq4 (rt:Int) (bt:Int) _ (.inl zo)) fun w1 b1=>?_
  have B1:=zh1 b1;clear b1;go_upto_region 3 with(fail)
  obtain⟨W2,hW2⟩:=eqx (w1.alloc (.cells #[.int .u32 0,.int .u32 0,.int .u32 0] 90));rw[←hW2];have q2:Blk W2 w1.heap.size 90 #[.int .u32 0,.int .u32 0,.int .u32 0]:=by rw[hW2];exact Blk.new w1 _ _
  have b2:Below W0.heap.size W0 W2:=by rw[hW2];exact qah B1.o _
  obtain⟨Z2,A2,Q2,B2⟩:=zh4 (Z0.below b2 Z0.lt) (A6.call b2) q2 b2;clear hW2 q2 b2;have k36:=qai A5.o B2.o;have hdo:qmv s R=(s,rWhy 25):=by
   unfold qmv;rw[A0.o]
  have A1:=zh1 hdo;clear hdo;go_wp2_with fail
  exact qr6 A1 HK (A4.o) (qqe 25 W2) (Z2.o) (A2.o)
 refine zcb (qq4 (rt:Int) (bt:Int) _ (.inr zo)) fun w1 b1=>?_
 have B1:=zh1 b1;clear b1;go_upto_region 3 with(fail)
 obtain⟨W2,hW2⟩:=eqx (w1.alloc (.cells #[.int .u32 0,.int .u32 0,.int .u32 0] 90));rw[←hW2];have q2:Blk W2 w1.heap.size 90 #[.int .u32 0,.int .u32 0,.int .u32 0]:=by rw[hW2];exact Blk.new w1 _ _
 have b2:Below W0.heap.size W0 W2:=by rw[hW2];exact qah B1.o _
 obtain⟨Z2,A2,Q2,B2⟩:=zh4 (Z0.below b2 Z0.lt) (A6.call b2) q2 b2;clear hW2 q2 b2;have k36:=qai A5.o B2.o;have hdo:qmv s R=(s,rWhy 25):=by
  unfold qmv;rw[A0.o]
 have A1:=zh1 hdo;clear hdo;go_wp2_with fail
 exact qr6 A1 HK (A4.o) (qqe 25 W2) (Z2.o) (A2.o)
end Go.Proofs.YthomgopipiomhaaGreatDoor
