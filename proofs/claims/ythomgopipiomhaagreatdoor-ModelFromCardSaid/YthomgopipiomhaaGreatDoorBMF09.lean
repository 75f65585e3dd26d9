/- Lemmas. -/
import Derived.Test.YthomgopipiomhaaGreatDoorBMF08
namespace Go.Proofs.YthomgopipiomhaaGreatDoor
open Go.RowKit
set_option linter.unusedVariables false
set_option linter.unusedSimpArgs false
set_option maxRecDepth 100000
set_option maxHeartbeats 32000000
variable {t:Tre}{s s' s1:Sta}{R r:Req}{c:Cfg}{n k cl base' G g B b size k' id y i j:Nat}{tn wg q:Int}{bs:List Nat}{Al Ac A:Option Addr}{col col' col5 colW colW':Col}{w w' W W0 W5 W':World}{v v5 vt vr vg u v' vd vl vq:Value}{css css1:List (List Value)}{xs vs X:List Value}{e tt rt gt:TypeId}{L L1:Loc}
theorem Sta.tree_some{n:Int}(h:s.tree n=some t):0≤n∧s.tres[n.toNat]? =some t∧t.state≠0∧t.state≠4:=by
 unfold Sta.tree at h;split at h
 ·
  rename_i h0
  split at h
  · cases h
  rename_i x hx
  split at h
  · cases h
  rename_i hne
  injection h with h;subst h;exact⟨h0,hx,fun e=>hne (.inl e),fun e=>hne (.inr e)⟩
 cases h
theorem Sta.tenant_some{n:Int}{x:Ten}(h:s.tenant n=some x):0≤n∧s.tens[n.toNat]? =some x:=by
 unfold Sta.tenant at h;split at h
 · exact⟨by assumption,h⟩
 cases h
theorem Sta.Ok.tenant_lt(hs:s.Ok){n:Int}{x:Ten}(h:s.tenant n=some x):0≤n∧n<16:=by
 obtain⟨h0,h1⟩:=Sta.tenant_some h;obtain⟨h2,_⟩:=tA8 h1;rw[hs.tensn]at h2;omega
theorem qsy (R:Req)(h:∀x∈R.leaf,x<256):∀(l:List Fld) (acc:List Nat),(∀x∈acc,x<256)→∀x∈(qi1 R l acc).2,x<256
 |[],acc,ha=>by simpa [qi1] using ha
 |f::l,acc,ha=>by
  rw[qi1];split
  ·
   refine qsy R h l _ (fun x hx=>?_);rcases List.mem_append.1 hx with h1|h1
   · exact ha x h1
   unfold fldB at h1;split at h1
   · exact qaz _ _ x h1
   unfold txt at h1;rcases List.mem_append.1 h1 with h2|h2
   · exact qaz _ _ x h2
   exact h x (tB7 h2)
  intro x hx;cases hx
theorem qsz(R:Req)(h:∀x∈R.leaf,x<256):∀x∈(qi2 R).2,x<256:=by
 unfold qi2;split
 · intro x hx;cases hx
 exact qsy R h _ _ (qaz _ _)
theorem qt3 (R:Req):∀(l:List Fld) (acc:List Nat),(∀f∈l,(f.2.1=1∨f.2.1=2∨f.2.1=3)∧f.1≤8)→(qi1 R l acc).2.length≤acc.length+8*l.length
 |[],acc,_=>by simp[qi1]
 |f::l,acc,hf=>by
  obtain⟨h1,h2⟩:=hf f zm;rw[qi1];split
  · have h3:=qt3 R l (acc++fldB R f) (fun g hg=>hf g (by simp[hg]))
    have e:(fldB R f).length=f.1:=by unfold fldB;rw[if_pos h1,qaw]
    rw[tA6,e]at h3;rw[tBi];omega
  simp
theorem qt4(R:Req)(h:ql8 R.op=true):(qi2 R).2.length≤33:=by
 have h:=of_decide_eq_true h;have h1:∃l:List Fld,fieldsOf R.op=some l∧l.length≤4∧∀f∈l,(f.2.1=1∨f.2.1=2∨f.2.1=3)∧f.1≤8:=by
  have h2:R.op=6∨R.op=7∨R.op=8∨R.op=9∨R.op=10∨R.op=11∨R.op=12:=zo;rcases h2 with e|e|e|e|e|e|e<;>rw[e]<;>exact⟨_,rfl,by decide,by decide⟩
 obtain⟨l,hl,h4,hf⟩:=h1;unfold qi2;rw[hl];have h3:=qt3 R l (be R.op.toNat 1) hf;rw[qaw]at h3;simp only;omega
theorem qt5(s:Sta)(r:Req)(hr:r.Good)(ha:ql8 r.op=true):LeafOk (qn1 s r):=by
 unfold qn1;constructor
 · have:=qt4 r ha
   simp only[tA6,qaw];omega
 intro x hx;rcases List.mem_append.1 hx with h|h
 · exact qaz _ _ x h
 rcases List.mem_append.1 h with h|h
 · exact qaz _ _ x h
 exact qsz r hr.leafb x h
theorem qt6 (R:Req):∀(l:List Fld) (acc:List Nat),(qi1 R l acc).1=0→∀f∈l,qi0 R f=0
 |[],_,_=>by simp
 |g::l,acc,h=>by
  rw[qi1]at h;split at h
  · rename_i hg
    intro f hf;rcases List.mem_cons.1 hf with rfl|hf
    · exact hg
    exact qt6 R l _ h f hf
  rename_i hg
  exact absurd h hg
theorem qt7(h:(qiw R).1=0):(qi2 R).1=0:=by
 unfold qiw at h;split at h
 · assumption
 rename_i hne
 exact absurd h hne
theorem qt8(h:(qiw R).1=0):∃l,fieldsOf R.op=some l∧∀f∈l,qi0 R f=0:=by
 have hb:=qt7 h;unfold qi2 at hb;split at hb
 · cases hb
 rename_i l hl
 exact⟨l,hl,qt6 R l _ hb⟩
theorem qt9(h:(qiw R).1=0):1≤R.op∧R.op≤12:=by
 obtain⟨l,hl,_⟩:=qt8 h;have:=qi8 R.op l hl;omega
theorem qta(h:(qiw R).1=0)(e:R.op=1):R.leaf.length≤256:=by
 obtain⟨l,hl,hf⟩:=qt8 h;rw[e,show fieldsOf 1=some [(1,1,35),(0,0,0)] from rfl]at hl;injection hl with hl;subst hl;have h0:=hf (0,0,0) zm;unfold qi0 at h0;simp at h0;omega
theorem qtb(h:(qiw R).1=0){l:List Fld}(hl:fieldsOf R.op=some l){o:Nat}(ho:(1,1,o)∈l):0≤R.num o∧R.num o≤255:=by
 obtain⟨l',hl',hf⟩:=qt8 h;rw[hl]at hl';injection hl' with hl';subst hl';have h0:=hf _ ho;unfold qi0 at h0;simp at h0;omega
theorem qtc{f t w:Int}(h:mayB f t w=true):t=1∨t=2∨t=3∨t=4:=by
 unfold mayB at h;split at h
 · simp at h;omega
 split at h
 · simp at h;omega
 split at h
 · simp at h;omega
 cases h
theorem qtd(hs:s.Ok)(hr:r.Good)(hl:r.leaf.length≤256)(ht:s.tree r.tree=some t):(qmq c s r t).1.Ok:=by
 obtain⟨h0,h1,h2,h3⟩:=Sta.tree_some ht;unfold qmq;split
 · exact hs
 rename_i hne
 split
 · exact hs
 split
 · exact hs
 split
 · exact hs
 rename_i hq
 split
 · exact hs
 rename_i x hx
 split
 · exact hs
 refine(hs.setX (n:=t.tenant.toNat) (f:=fun x=>{x with used:=(x.used+(r.leaf.length+16)) % 4294967296}) (fun y hy o=>{o with used:=Nat.mod_lt _ zdc})).setT (fun y hy o=>?_) (fun e=>absurd e zo);have e:y=t:=by
  have h4:s.tres[r.tree.toNat]? =some y:=hy;rw[h1]at h4;injection h4 with h4;exact h4.symm
 subst e;have q1:(y.queue++[r.leaf]).length≤64:=by
  rw[tA6,List.length_singleton];omega
 have q2:y.leaves.length+(y.queue++[r.leaf]).length≤1024:=by
  rw[tA6,List.length_singleton];omega
 have q3:∀b∈y.queue++[r.leaf],LeafOk b:=by
  intro b hb;rcases List.mem_append.1 hb with h|h
  · exact o.queueb b h
  obtain rfl:=List.mem_singleton.1 h;exact⟨by omega,hr.leafb⟩
 exact {o with queue:=q1,leaves:=q2,queueb:=q3}
theorem qte(hs:s.Ok)(ht:s.tree r.tree=some t):(qmt c s r t).1.Ok:=by
 obtain⟨h0,h1,h2,h3⟩:=Sta.tree_some ht;unfold qmt;split
 · exact hs
 rename_i hne
 have hn:r.tree≠0:=fun e=>hne (.inl e)
 have hm:mayB t.state r.state t.queue.length=true:=by
  cases h:mayB t.state r.state t.queue.length with
  |true=>rfl
  |false=>exact absurd (.inr (by rw[h];rfl)) hne
 have hst:=qtc hm;have hs1:(if r.state=4 then s.setX t.tenant.toNat (fun x=>{x with used:=x.used - qmi t.queue}) else s).Ok:=by
  split
  · exact hs.setX fun x _ o=>{o with used:=by have:=o.used;show x.used - _<_;omega}
  exact hs
 have e1:(if r.state=4 then s.setX t.tenant.toNat (fun x=>{x with used:=x.used - qmi t.queue}) else s).tres=s.tres:=by split<;>rfl
 refine hs1.setT (fun y hy o=>?_) (fun e=>absurd e zo);rw[e1,h1]at hy;injection hy with hy;subst hy;have hq:=o.queue;have hl:=o.leaves;exact {o with
  state:=by show 0≤r.state∧r.state≤4;omega
  live:=fun _=>o.live h2
  deficit:=by
   dsimp only;split
   · rfl
   exact o.deficit
  queue:=by
   dsimp only;split
   · simp
   exact hq
  leaves:=by
   dsimp only;split
   · simp;omega
   exact hl
  queueb:=by
   dsimp only;split
   · simp
   exact o.queueb}
theorem qtf(hs:s.Ok)(ht:s.tree r.tree=some t):(qmu s r).1.Ok:=by
 obtain⟨h0,h1,h2,h3⟩:=Sta.tree_some ht;unfold qmu;split
 · exact hs
 rename_i hn
 split
 · exact hs
 rename_i hw
 refine hs.setT (fun y hy o=>?_) (fun e=>absurd e zo);exact {o with weight:=by show 0≤r.weight∧r.weight≤4;omega,live:=fun h=>⟨by show 1≤r.weight;omega,(o.live h).2⟩,deficit:=rfl}
theorem qtg(hs:s.Ok)(ht:s.tres[n]? =some t)(hd:t.draws.length<32):(s.setT n fun t=>{t with draws:=t.draws++[s.draw]}).Ok:=by
 refine hs.setT (fun y hy o=>?_) (fun _ y _ h1 h2=>⟨h1,h2⟩);rw[ht]at hy;injection hy with hy;subst hy;exact {o with
  live:=fun h=>⟨(o.live h).1,by simp⟩
  draws:=by simp;omega
  drawb:=fun x hx=>by
   rcases List.mem_append.1 hx with h|h
   · exact o.drawb x h
   obtain rfl:=List.mem_singleton.1 h;exact hs.draw}
theorem qth(hs:s.Ok)(ht:s.tree r.tree=some t):(qmv c s r t).1.Ok:=by
 obtain⟨h0,h1,h2,h3⟩:=Sta.tree_some ht;obtain⟨h4,_⟩:=tA8 h1;rw[hs.tresn]at h4;unfold qmv;split
 · exact hs
 rename_i hd
 exact(qtg hs h1 zo).pub c h4
theorem qti(hs:s.Ok)(h1:0≤tn∧tn<16)(h2:1≤wg∧wg≤4):({Tre.zero with state:=1,tenant:=tn,weight:=wg,draws:=[s.draw]}:Tre).Ok:=
 {Tre.zero_ok with
  state:=by show (0:Int)≤1∧(1:Int)≤4;decide
  tenant:=h1
  weight:=by show 0≤wg∧wg≤4;omega
  live:=fun _=>⟨h2.1,by simp⟩
  draws:=by simp
  drawb:=fun x hx=>by
   obtain rfl:=List.mem_singleton.1 hx;exact hs.draw}
theorem qtj(hs:s.Ok):(qms c s r).1.Ok:=by
 unfold qms;split
 · exact hs
 rename_i hn
 have hn16:=hs.tresn;split
 · exact hs
 split
 · exact hs
 split
 · exact hs
 rename_i x hx
 split
 · exact hs
 refine Sta.Ok.pub (hs.setT (fun y hy o=>?_) (fun e=>absurd e zo)) c zo;exact qti hs (hs.tenant_lt hx) zo
theorem qtk(hs:s.Ok)(hr:r.Good):(qmw c s r).1.Ok:=by
 unfold qmw;split
 · exact hs
 rename_i hn
 split
 · exact hs
 rename_i x hx
 split
 · exact hs
 split
 · exact hs
 rename_i hg
 refine {hs with grasn:=by simp;omega,gras:=fun g h=>?_,owner:=?_}
 · rcases List.mem_append.1 h with h|h
   · exact hs.gras g h
   obtain rfl:=List.mem_singleton.1 h;exact⟨hs.tenant_lt hx,by show 1≤r.role∧r.role≤4;omega,hr.expires⟩
 have h0:=hs.owner;obtain⟨h1,_⟩:=tA8 h0;show (s.gras++_)[0]? =_;rw[tBm h1];exact h0
theorem qtl(hs:s.Ok):(qmx s r).1.Ok:=by
 unfold qmx;split
 · exact hs
 split
 · exact hs
 rename_i hn
 refine {hs with grasn:=by simpa using hs.grasn,gras:=qo4 hs.gras fun x _ o=>{o with},owner:=?_};show (s.gras.modify r.id _)[0]? =_;rw[qoa _ _ zo];exact hs.owner
theorem qtm(hs:s.Ok)(hr:r.Good):(qmy s r).1.Ok:=by
 unfold qmy;split
 · exact hs
 split
 · exact hs
 rename_i hn
 split
 · exact hs
 exact hs.setX fun y hy o=>{o with rate:=by show r.rate≤_;omega,burst:=by show r.burst≤_;omega,tok:=tA4 _,store:=hr.store}
theorem qtn(hs:s.Ok)(hr:r.Good)(hl:r.op=1→r.leaf.length≤256):(qmz c s r).1.Ok:=by
 unfold qmz;split
 · exact qtj hs
 split
 · exact qtk hs hr
 split
 · exact qtl hs
 split
 · exact qtm hs hr
 split
 · exact hs
 rename_i t ht
 split
 · rename_i h1
   exact qtd hs hr (hl h1) ht
 split
 · exact qte hs ht
 split
 · exact qtf hs ht
 split
 · exact qth hs ht
 exact hs
theorem qto{α β:Type}(g:α→β)(f:α→α)(l:List α)(n j:Nat)(hf:n=j→∀x,l[j]? =some x→g (f x)=g x):((l.modify n f)[j]?).map g=(l[j]?).map g:=by
 by_cases e:n=j
 · subst e
   cases h:l[n]? with
   |none=>rw[List.getElem?_modify,h];rfl
   |some x=>rw[qo9 f h];simp[hf rfl x h]
 rw[qoa l f e]
theorem Sta.setT_leaves(s:Sta)(n:Nat)(f:Tre→Tre)(hf:n=0→∀t,(f t).leaves=t.leaves):(s.setT n f).tres[0]?.map (·.leaves)=s.tres[0]?.map (·.leaves):=
 qto _ _ _ _ _ fun e x _=>hf e x
theorem Sta.pub_leaves(c:Cfg)(s:Sta)(n:Nat):(s.pub c n).tres[0]?.map (·.leaves)=s.tres[0]?.map (·.leaves):=
 qto _ _ _ _ _ fun e x _=>rfl
theorem qtp(ha:ql8 r.op=true):(qmz c s r).1.tres[0]?.map (·.leaves)=s.tres[0]?.map (·.leaves):=by
 have h6:=of_decide_eq_true ha;unfold qmz;split
 ·
  unfold qms;split
  · rfl
  split
  · rfl
  split
  · rfl
  split
  · rfl
  split
  · rfl
  rw[Sta.pub_leaves];exact Sta.setT_leaves _ _ _ fun e=>absurd e zo
 split
 ·
  unfold qmw;split
  · rfl
  split
  · rfl
  split
  · rfl
  split<;>rfl
 split
 · unfold qmx
   split
   · rfl
   split<;>rfl
 split
 ·
  unfold qmy;split
  · rfl
  split
  · rfl
  split<;>rfl
 split
 · rfl
 rename_i t ht
 split
 · omega
 split
 ·
  unfold qmt;split
  · rfl
  simp only;refine Eq.trans (Sta.setT_leaves _ _ _ ?_) ?_
  · intro _ _
    rfl
  split<;>rfl
 split
 ·
  unfold qmu;split
  · rfl
  split
  · rfl
  refine Sta.setT_leaves _ _ _ ?_;intro _ _;rfl
 split
 ·
  unfold qmv;split
  · rfl
  simp only;rw[Sta.pub_leaves];refine Sta.setT_leaves _ _ _ ?_;intro _ _;rfl
 rfl
theorem qtq(h:qmn c s r=0):(qiw r).1=0:=by
 unfold qmn at h;split at h
 · cases h
 rename_i h0
 omega
theorem qtr(hs:s.Ok)(hr:r.Good)(ha:ql8 r.op=true)(h:∀t,s.tres[0]? =some t→t.leaves.length<1024)(ls:Sta):(s.setT 0 fun t=>{t with leaves:=t.leaves++[qn1 ls r]}).Ok:=by
 obtain⟨t,h1,h2,h3⟩:=hs.first;refine hs.setT (fun y hy o=>?_) (fun _ y _ h4 h5=>⟨h4,h5⟩);have e:y=t:=by
  rw[h1]at hy;injection hy with hy;exact hy.symm
 subst e;have h6:=h y h1;exact {o with
  leaves:=by simp[h3];omega
  leafb:=fun b hb=>by
   rcases List.mem_append.1 hb with h|h
   · exact o.leafb b h
   obtain rfl:=List.mem_singleton.1 h;exact qt5 _ r hr ha
  hds:=by have:=o.hds;simp;omega}
theorem qts(he:s'.tres[0]?.map (·.leaves)=s.tres[0]?.map (·.leaves))(h:(s.tres[0]?.getD Tre.zero).leaves.length<1024):∀t,s'.tres[0]? =some t→t.leaves.length<1024:=by
 intro t ht;rw[ht]at he;cases h0:s.tres[0]? with
 |none=>rw[h0]at he;cases he
 |some x=>
  rw[h0]at he h;simp at he h;rw[he];exact h
theorem qtt(hs:s.Ok)(hr:r.Good):(doS c s r).1.Ok:=by
 unfold doS;split
 · exact hs
 rename_i hm
 have hm0:qmn c s r=0:=zo;have henc:=qtq hm0;have h1:=qtn (c:=c) hs hr (qta henc);have h0:ql8 r.op=true→_:=fun ha=>qtp (c:=c) (s:=s) ha
 obtain⟨s1,a,h⟩:∃s1 a,qmz c s r=(s1,a):=⟨_,_,rfl⟩;rw[h]at h1 h0 ⊢;simp only at h1 h0 ⊢;split
 · exact hs
 split
 · exact hs
 rename_i hl
 split
 · exact hs
 have h2:=h1.setX (n:=(((s.gras[r.tid]?).getD ⟨0,0,0,false⟩).tenant).toNat) (f:=fun x=>{x with tok:=x.tok - qmm r.op r.leaf.length}) (fun x _ o=>{o with tok:=by have:=o.tok;show x.tok - _≤x.burst;omega});split
 · rename_i ha
   refine(qtr h2 hr ha (qts (s:=s) (h0 ha) ?_) _).pub c zdc;rw[ha]at hl;simp at hl;exact hl
 exact h2
theorem qtu{y:Nat × Nat}(h:(qih bs).1=some y):askS c s bs=(s,(qiv (rWhy 12)).2):=by
 unfold askS;rw[h]
theorem qtv(h:(qih bs).1=none):askS c s bs=((doS c s (qih bs).2).1,(qiv (doS c s (qih bs).2).2).2):=by
 unfold askS;rw[h]
theorem qtw(hs:s.Ok)(hr:(qih bs).2.Good):(askS c s bs).1.Ok:=by
 cases h:(qih bs).1 with
 |some y=>
  rw[qtu h];exact hs
 |none=>
  rw[qtv h];dsimp only;exact qtt hs hr
theorem qtx(hs:s.Ok)(hn:n<4294967296):(qn4 s n).Ok:={hs with draw:=hn}
theorem qty(hs:s.Ok):(qn3 s).Ok:=by
 refine {hs with clock:=?_,tensn:=by simpa [qn3] using hs.tensn,tens:=fun x hx=>?_}
 · have:=hs.clock
   unfold qn3;dsimp only;split<;>omega
 obtain⟨y,hy,rfl⟩:=List.mem_map.1 hx;have o:=hs.tens y hy;split
 · exact {o with tok:=by have:=o.tok;dsimp only;split<;>omega}
 exact o
theorem qtz{ws:List Int}{a:Nat}(h:qn5 ws a=some n):n<ws.length∧1≤ws.getD n 0:=by
 unfold qn5 at h;have h1:=List.find?_some h;simp at h1;refine⟨?_,by simpa [tB4] using h1⟩;rcases Nat.lt_or_ge n ws.length with h2|h2
 · exact h2
 rw[List.getElem?_eq_none h2]at h1;simp at h1
theorem qu0{a:Nat}(h:qn5 (s.tres.mapIdx fun i t=>qn6 i t) a=some n):n≠0∧∃t,s.tres[n]? =some t∧qkq t.state=true∧1≤t.weight:=by
 obtain⟨h1,h2⟩:=qtz h;rw[List.length_mapIdx]at h1;rw[tB4,List.getElem?_mapIdx,tA7 h1]at h2;simp only[Option.map_some,Option.getD_some]at h2;unfold qn6 at h2;split at h2
 · omega
 rename_i h3
 refine⟨fun e=>h3 (.inl e),_,tA7 h1,?_,h2⟩;cases h4:qkq (s.tres[n]).state with
 |true=>rfl
 |false=>exact absurd (.inr (by rw[h4];rfl)) h3
theorem qu1(o:t.Ok)(take:Nat)(d:Int)(hd:d=t.deficit+min t.weight 4*min (max q 1) 2)(ht:take=(max (min d t.queue.length) 0).toNat):
 ({t with deficit:=if t.queue.drop take=[] then 0 else d - take,leaves:=t.leaves++t.queue.take take,queue:=t.queue.drop take}:Tre).Ok:=by
 have hl:=o.leaves;have hq:=o.queue;have hw:=o.weight;have h0:0≤d:=by
  rw[hd,o.deficit,Int.zero_add];exact Int.mul_nonneg zo zo
 exact {o with
  deficit:=by
   dsimp only;split
   · rfl
   rename_i h
   have:take<t.queue.length:=by
    rcases Nat.lt_or_ge take t.queue.length with h1|h1
    · exact h1
    exact absurd (List.drop_of_length_le h1) h
   omega
  leaves:=by
   show (t.leaves++t.queue.take take).length+(t.queue.drop take).length≤1024;simp only[tA6,tBd,tBk];omega
  leafb:=fun b hb=>by
   rcases List.mem_append.1 hb with h|h
   · exact o.leafb b h
   exact o.queueb b (tB7 h)
  queue:=by
   show (t.queue.drop take).length≤64;simp only[tBk];omega
  queueb:=fun b hb=>o.queueb b (List.mem_of_mem_drop hb)
  hds:=by
   have:=o.hds;show t.hd.size≤(t.leaves++t.queue.take take).length;rw[tA6];omega}
def takeN (c:Cfg)(t:Tre):Nat:=(max (min (t.deficit+min t.weight 4*min (max c.quantum 1) 2) t.queue.length) 0).toNat
def seqT (c:Cfg)(t:Tre):Tre:=
 {t with deficit:=if t.queue.drop (takeN c t)=[] then 0 else t.deficit+min t.weight 4*min (max c.quantum 1) 2 - takeN c t,leaves:=t.leaves++t.queue.take (takeN c t),queue:=t.queue.drop (takeN c t)}
theorem qu2(hs:s.Ok):(if 0≤s.lane∧s.lane<s.tres.length then s.lane.toNat else 0)=s.lane.toNat:=by
 have hl:=hs.lane;exact if_pos ⟨hl.1,by rw[hs.tresn];omega⟩
theorem qu3(hs:s.Ok)(h:qn5 (s.tres.mapIdx fun i t=>qn6 i t) s.lane.toNat=none):seqS c s=s:=by
 unfold seqS;dsimp only;rw[qu2 hs,h];have hl:=hs.lane;dsimp only;rw[Int.toNat_of_nonneg hl.1]
theorem qu4(e:s1.tres=s.tres)(ht:s.tres[k]? =some t)(f:Tre→Tre):s1.setT k f=s1.setT k fun _=>f t:=by
 unfold Sta.setT;rw[qrb (f:=f) (g:=fun _=>f t) (fun x hx=>by
  rw[e,ht]at hx;injection hx with hx;rw[hx])]
theorem qu5(hs:s.Ok)(h:qn5 (s.tres.mapIdx fun i t=>qn6 i t) s.lane.toNat=some k)(ht:s.tres[k]? =some t):
 seqS c s=if takeN c t=0 then({s with lane:=(((k+1) % 16:Nat):Int)}:Sta).setT k (fun _=>seqT c t) else(({s with lane:=(((k+1) % 16:Nat):Int)}:Sta).setT k (fun _=>seqT c t)).pub c k:=by
 unfold seqS;dsimp only;rw[qu2 hs,h];dsimp only;rw[ht,hs.tresn];simp only[Option.getD_some];rw[qu4 (s:=s) (s1:={s with lane:=(((k+1) % 16:Nat):Int)}) rfl ht];rfl
theorem qu6(hs:s.Ok):(seqS c s).Ok:=by
 rcases h:qn5 (s.tres.mapIdx fun i t=>qn6 i t) s.lane.toNat with _|n
 · rw[qu3 hs h]
   exact hs
 obtain⟨h0,t,ht,hr,hw⟩:=qu0 h;obtain⟨h1,_⟩:=tA8 ht;have h16:=hs.tresn;have hl1:(0:Int)≤(((n+1) % 16:Nat):Int)∧(((n+1) % 16:Nat):Int)<16:=zo;have hs1:({s with lane:=(((n+1) % 16:Nat):Int)}:Sta).Ok:={hs with lane:=hl1};have hs2:=hs1.setT (n:=n) (f:=fun _=>seqT c t) (fun y hy o=>qu1 (hs.tre ht) (q:=c.quantum) _ _ rfl rfl) (fun e=>absurd e h0);rw[qu5 hs h ht];split
 · exact hs2
 exact hs2.pub c zo
theorem qu7:(newS c).Ok:=by
 refine Sta.Ok.pub (n:=0) ?_ c zdc;exact {
  clock:=by decide
  draw:=by decide
  lane:=by decide
  tensn:=rfl
  tresn:=rfl
  grasn:=by decide
  tens:=fun x hx=>by
   rcases List.mem_cons.1 hx with rfl|h
   · exact⟨by decide,by decide,by decide,by decide,by decide⟩
   rw[List.eq_of_mem_replicate h];exact Ten.zero_ok
  tres:=fun x hx=>by
   rcases List.mem_cons.1 hx with rfl|h
   · exact {Tre.zero_ok with state:=by show (0:Int)≤1∧(1:Int)≤4;decide,weight:=by show (0:Int)≤1∧(1:Int)≤4;decide,live:=fun _=>⟨by show (1:Int)≤1;decide,by simp⟩,draws:=by simp,drawb:=fun x hx=>by obtain rfl:=List.mem_singleton.1 hx;decide}
   rw[List.eq_of_mem_replicate h];exact Tre.zero_ok
  gras:=fun x hx=>by
   obtain rfl:=List.mem_singleton.1 hx;exact⟨by decide,by decide,by decide⟩
  owner:=rfl
  first:=⟨_,rfl,rfl,rfl⟩}
theorem qu8(op:Int)(n:Nat):qq9 op (n:Int)=((qmm op n:Nat):Int):=by
 unfold qq9 qmm;split
 · split
   · omega
   split<;>omega
 rfl
theorem qu9(op:Int)(n:Nat):qmm op n≤16385:=by
 unfold qmm;split<;>omega
theorem qua(h:(qiw R).1≠0):qmn c s R=12:=by
 unfold qmn;rw[if_pos h]
theorem qub(h:(qiw R).1=0)(hg:qsm c s R=false):qmn c s R=20:=by
 unfold qmn;rw[if_neg zo];unfold qsm at hg;cases hy:s.gras[R.tid]? with
 |none=>rfl
 |some y=>
  rw[hy]at hg;dsimp only at hg ⊢;cases h1:qkd (qmg c.seed) (R.tid,R.cavs,R.tag) with
  |false=>rfl
  |true=>
   rw[h1]at hg;rw[if_neg zdc,if_pos];cases h2:y.revoked with
   |true=>rfl
   |false=>
    rw[h2]at hg;by_cases h3:s.clock<y.expires
    · rw[decide_eq_true h3]at hg
      simp at hg;simp[hg]
    simp[show y.expires≤s.clock by omega]
theorem quc{y:Gra}(h:(qiw R).1=0)(hg:qsm c s R=true)(hy:s.gras[R.tid]? =some y):
 qmn c s R=if !qmk y.role R.op y.tenant (qml s R y.tenant) then 21 else match s.tenant y.tenant with|none=>22|some x=>if x.tok<qmm R.op R.leaf.length then 22 else 0:=by
 unfold qsm at hg;rw[hy]at hg;simp only[Bool.and_eq_true]at hg;obtain⟨h1,h2,h3,h4⟩:=hg;have h5:=of_decide_eq_true h3;have h6:¬(y.revoked||decide (y.expires≤s.clock)||!qkl R.op (if qdl R.op then R.tree else 0) s.clock R.cavs)=true:=by
  rw[h4];simp at h2;simp[h2];omega
 unfold qmn;rw[if_neg zo,hy];dsimp only;rw[if_neg (by rw[h1];decide),if_neg h6];rfl
theorem qud(h:(qiw R).1=0):R.cavs.length≤4:=by
 have hb:=qt7 h;unfold qiw at h;rw[if_pos hb]at h;split at h
 · rename_i h1
   unfold qda at h1;split at h1
   · cases h1
   omega
 rename_i h1
 exact absurd h h1
theorem Req.Good.fit(h:R.Good):R.Fit:=by
 have bd:∀{x:Int},(Lit.int .i64 x).wf=true→x<18446744073709551616:=fun {x} hx=>by
  have:=(Go.Lit.wf_int_iff _ _).1 hx;rw[IntKind.min_i64,IntKind.max_i64]at this;omega
 refine⟨h.tag,fun o=>?_⟩;have a1:=bd h.tree;have a2:=bd h.tenant;have a3:=bd h.role;have a4:=bd h.state;have a5:=bd h.weight;have a6:=h.id;have a7:=h.lo;have a8:=h.hi;have a9:=h.rate;have b1:=h.burst;have b2:=h.store;have b3:=h.expires;unfold Req.num;split<;>omega
theorem Asked.call{cc:Nat}(h:Asked w col R Ac cc Al cl)(hb:Zb w w'):Asked w' col R Ac cc Al cl:=
 ⟨h.good,h.leaf.call hb,h.leafc,h.leafm,h.cavs.call hb,h.cavc,h.cavm,h.leaf0,h.cavs0⟩
theorem que(c:Cfg)(s:Sta)(L:Loc)(col:Col)(k g:Nat)(css:List (List Value))(R:Req)(Ac:Option Addr)(cc:Nat)(Al:Option Addr)(cl:Nat)(w:World)(hk:Kind k)(hc:c.Ok)(hs:s.Ok)(h:Mdl w col k g c s L css)
 (hr:Asked w col R Ac cc Al cl)(hT:Tabs w)(hE:w.cell? ⟨0,0,none⟩=some (.iface 327 (.agg #[.pointer (some ⟨3,81,none⟩)]))):
 Zc 50 #[.pointer (some ⟨g,0,none⟩),.agg (reqv R (.slice Ac R.cavs.length cc) (.slice Al R.leaf.length cl)).toArray] w fun e w'=>∃(y:Gra) (cost:Nat),e=.returned (.tuple #[.agg #[.int .i64 y.tenant,.int .i64 y.role,.int .u64 (y.expires:Int),.bool y.revoked],.int .u32 (cost:Int),.int .i64 ((qmn c s R:Nat):Int)])∧
  (qmn c s R=0→s.gras[R.tid]? =some y∧cost=qmm R.op R.leaf.length)∧Below w.heap.size w w':=by
 have rlen:=qix R (.slice Ac R.cavs.length cc) (.slice Al R.leaf.length cl) hr.good.tag;have rest:=qdk R (.slice Ac R.cavs.length cc) (.slice Al R.leaf.length cl) hr.good.tag;obtain⟨Q,hQ⟩:=xeq (reqv R (.slice Ac R.cavs.length cc) (.slice Al R.leaf.length cl));have CE:=fun(w':World)(hb:Below w.heap.size w w')=>qj2 R Ac cc Al cl w' hr.good.fit (hr.leaf.call hb) hr.leafc hr.leafm (hr.cavs.call hb) hr.cavc hr.cavm hr.good.tid hr.good.cavn
 have CG:=fun(w':World)(hb:Below w.heap.size w w')(h4:R.cavs.length≤4)=>qss c s L col k g css R Ac cc Al cl w' hk hc hs (h.call hb) (hr.call hb) (hT.below hb hT.size) h4
 have CA:=fun(w':World)(hb:Below w.heap.size w w')(own ro ex rv:Value)(tn:Int)=>qst c s L col k g css R (.slice Ac R.cavs.length cc) (.slice Al R.leaf.length cl) own ro ex rv tn w' hk hs (h.call hb) hr.good.tag hr.good.id
 rw[hQ]at rlen rest CE CG CA ⊢;obtain⟨W0,hW0⟩:=eqx ((w.alloc (.cells Q.toArray 34)).alloc (.cells #[.int .i64 0,.int .i64 0,.int .u64 0,.bool false] 66));have q0:=zNb hW0;have z0:=zNc hW0;have b0:=zMb hW0;have rng:W0.rangeAt w.heap.size 0 Q:=qap q0 0 Q zjq;have kop:Q.toArray[0]? =some (.int .i64 R.op):=by rw[tA3,←hQ];rfl
 have k47:Q.toArray[47]? =some (.slice Al R.leaf.length cl):=by rw[tA3];exact rest 12
 obtain⟨H,BB,Q0,Z0,B0,HK,HC,HS⟩:=zh8 h hW0 q0 z0 b0 hk hc hs;obtain⟨HR,RL,HQ,TT,HE,AE,AN,AO⟩:=zh8 hr rlen hQ hT hE kop k47 rng;obtain⟨AP,AQ,AR,AC⟩:=zh4 CE CG CA (zI 34 rlen);clear h q0 z0 b0 hk hc hs hr rlen rest hQ hT hE kop k47 rng CE CG CA;obtain⟨en,hen⟩:=xeq ((qiw R).1);have A9:=zh1 hen;clear hen;go_enter Tryz.func50,Tryz.ntmps50
 go_upto_region 1 with(fail)
 rw[←hW0];clear hW0;go_wp2_with (refine zld AO.o zu34 AC.o ?_)
 refine(AP.o W0 B0.o).mono ?_;rintro e w1 ⟨v1,rfl,o1,b1⟩;rw[A9.o];obtain⟨B1,AA,Z1,Q1⟩:=zh4 b1 (B0.trans (b1.mono B0.size)) (Z0.below b1 Z0.lt) (Q0.below b1 Q0.lt);clear o1 b1;by_cases h0:en=0
 ·
  subst h0;have h4:=qud A9.o;have AS:=zh1 h4;clear h4;have AD:=zh1 (qap Q1.o 0 Q zjq);go_upto_region 4 with(fail)
  go_wp2_with (refine zld AD.o zu34 AC.o ?_)
  refine(AQ.o w1 AA.o AS.o).mono ?_;rintro e w2 ⟨y,rfl,hy,b2⟩;obtain⟨gb,hgb⟩:=xeq (qsm c s R);rw[hgb]at hy ⊢;obtain⟨tn,htn⟩:=xeq y.tenant;obtain⟨ro,hro⟩:=xeq y.role;obtain⟨X,hX⟩:=xeq (grav y);rw[show (#[.int .i64 y.tenant,.int .i64 y.role,.int .u64 (y.expires:Int),.bool y.revoked]:Array Value)=X.toArray by rw[←hX];rfl];have lX:X.length=4:=by rw[←hX];rfl
  have oX:∀u∈X,u.oneCell'=true:=by
   rw[←hX];intro u hu;unfold grav at hu;simp only[List.mem_cons,List.not_mem_nil,or_false]at hu;rcases hu with rfl|rfl|rfl|rfl<;>rfl
  obtain⟨X0,X1,XA,A7,LX,OX,HY,AF⟩:=zh8 (show X.toArray[0]? =some (.int .i64 tn) by rw[←hX,←htn];rfl) (show X.toArray[1]? =some (.int .i64 ro) by rw[←hX,←hro];rfl) (show X.toArray=#[.int .i64 tn,.int .i64 y.role,.int .u64 (y.expires:Int),.bool y.revoked] by rw[←hX,←htn];rfl) hX lX oX hy hgb;obtain⟨A8,AG,A0,B2,GN⟩:=zh5 htn hro (zI 66 lX) b2 (Blk.new w2 66 #[.int .i64 0,.int .i64 0,.int .u64 0,.bool false]);clear hX lX oX hy hgb htn hro b2;go_upto_region 5 with(refine zst GN.o A0.o (by simp[LX.o]) OX.o ?_)
  obtain⟨W3,hW3⟩:=eqx ((w2.alloc (.cells #[.int .i64 0,.int .i64 0,.int .u64 0,.bool false] 66)).setRow w2.heap.size X.toArray);rw[←hW3];obtain⟨G,hG⟩:=eqx w2.heap.size;rw[←hG];have GS:=zh1 (show w1.heap.size≤G by rw[hG];exact B2.size);have g3:Blk W3 G 66 X.toArray:=by rw[hW3,hG];exact(Blk.new _ _ _).setRow _
  have b3:Below w1.heap.size w1 W3:=by rw[hW3];exact below_setRow (B2.alloc B2.size _) B2.size _
  obtain⟨G3,B3,AB,Z3,Q3⟩:=zh5 g3 b3 (AA.trans (b3.mono AA.size)) (Z1.below b3 Z1.lt) (Q1.below b3 Q1.lt);clear hW3 hG g3 b3;have AT:=zh1 (qap G3.o 0 X zjq);cases gb with
  |false=>
   have A1:=zh1 (qub (c:=c) (s:=s) A9.o AF.o);go_wp2_with (first
    |(refine zld (AT.o) zu66 A0.o ?_)
    |(refine zst (Z3.o) A0.o (by simp[LX.o]) OX.o ?_))
   have A2:=qap ((Z3.o).setRow X.toArray) 0 X zjq;refine bodyPost_ret (qhm rfl rfl (run_loadVar_mid _ _ 0 _ X _ A2 Tryz.underlying66 rfl A0.o)) rfl ⟨y,0,?_,fun h=>?_,below_setRow (AB.o) zo _⟩
   · rw[A1.o,←A7.o]
     rfl
   rw[A1.o]at h;cases h
  |true=>
   have hyy:=HY.o rfl;have hyo:=HS.gra hyy;obtain⟨AU,A1⟩:=zh2 hyy (quc A9.o AF.o hyy);obtain⟨m,rfl⟩:∃m:Nat,tn=m:=⟨tn.toNat,by have:=hyo.tenant;rw[A8.o]at this;omega⟩;have hm16:m<16:=by have:=hyo.tenant;rw[A8.o]at this;omega
   obtain⟨x,hx⟩:∃x,s.tens[m]? =some x:=⟨_,tA7 (by rw[HS.tensn];omega)⟩;have HX:=zh1 hx;have hxt:s.tenant y.tenant=some x:=by
    unfold Sta.tenant;rw[A8.o,if_pos zo,tBe];exact hx
   obtain⟨AV,HM⟩:=zh2 hxt hm16;clear hyy hyo hx hxt hm16;go_upto_region 8 with(fail)
   obtain⟨W4,hW4⟩:=eqx (W3.alloc (.cells #[.pointer none] 218));rw[←hW4];obtain⟨p,hp⟩:=eqx W3.heap.size;rw[←hp];have p4:Blk W4 p 218 #[.pointer none]:=by rw[hW4,hp];exact Blk.new _ _ _
   have b4:=zMa hW4;obtain⟨PS,P4,BC,A5,Z4,Q4,G4⟩:=zh7 (show W3.heap.size≤p by omega) p4 b4 (AB.trans (b4.mono AB.size)) (Z3.below b4 Z3.lt) (Q3.below b4 Q3.lt) (G3.below b4 G3.lt);clear hW4 hp p4 b4;obtain⟨S,HS9⟩:=zS fun w'=>Below W4.heap.size W4 w'
   refine zrs S 12 (zq 0 9 [(11,false),(9,true),(10,true),(12,true)]) ((HS9.o _).mpr ((tA5 _ _).drew)) ?_;obtain⟨F0,F1,F2,FQ,FG⟩:=zh5 (fun(w':World)(h:S w')=>((G4.below ((HS9.o w').mp h) G4.lt).cell 0).trans X0.o) (fun(w':World)(h:S w')=>((G4.below ((HS9.o w').mp h) G4.lt).cell 1).trans X1.o) (fun(w':World)(h:S w')=>((Q4.below ((HS9.o w').mp h) Q4.lt).cell 0).trans AE.o) (fun(w':World)(h:S w')=>qap (Q4.below ((HS9.o w').mp h) Q4.lt) 0 Q zjq) (fun(w':World)(h:S w')=>qap (G4.below ((HS9.o w').mp h) G4.lt) 0 X zjq);iterate 7 (refine zr3 ?_)
   refine qoc rfl rfl 34 (.tmp 3) rfl w.heap.size 0 rfl Q _ FQ.o Tryz.underlying34 rfl AC.o ?_;refine zP ?_;refine qoc rfl rfl 66 (.tmp 9) rfl G 0 rfl X _ FG.o Tryz.underlying66 rfl A0.o ?_;refine zP ?_;iterate 1 (refine zrb ?_)
   obtain⟨Wd,hWd,BD⟩:=zdr W4;rw[←hWd];clear hWd;have AW:=zh1 (A5.trans (BD.mono A5.size));refine zw ?_;go_simp;rw[XA.o];refine zcb (AR.o Wd AW.o (.bool false) (.int .i64 y.role) (.int .u64 (y.expires:Int)) (.bool y.revoked) (m:Int)) fun w5 b5=>?_
   have B5:=zh1 (BD.trans (b5.mono BD.size));clear b5;refine⟨(HS9.o _).mpr B5.o,zput ?_⟩;refine zw ?_;go_simp;refine(qsv ro R.op (m:Int) (qml s R (m:Int)) w5).mono ?_;rintro e w6 ⟨v6,rfl,b6,hd1,hd2⟩;obtain⟨B6,S5⟩:=zh2 (B5.trans (b6.mono B5.size)) (show W4.heap.size≤w5.heap.size from B5.size);clear b6;refine⟨(HS9.o _).mpr B6.o,zput ?_⟩;refine zw ?_;go_simp;cases hdec:qmk ro R.op (m:Int) (qml s R (m:Int)) with
   |false=>
    obtain⟨eg,rfl,e6,es⟩:=hd2 hdec;have why21:qmn c s R=21:=by
     rw[A1.o,AG.o,A8.o,hdec];rfl
    obtain⟨A4,E6,ES⟩:=zh3 why21 e6 es;clear hd1 hd2 hdec e6 es why21;obtain⟨P6,A6,G6,Z6⟩:=zh4 (P4.below B6.o P4.lt) (A5.trans (B6.mono A5.size)) (G4.below B6.o G4.lt) (Z4.below B6.o Z4.lt);refine zcb (qsx ⟨eg,0,none⟩ ⟨p,0,none⟩ (.pointer none) w6 (qai HE.o A6.o) ((P6.cell 0).trans rfl) (P6.frozen 0)) fun w7 hw7=>?_
    obtain⟨W6,hW6⟩:=eqx ((((w6.alloc (.cells #[.pointer (some ⟨p,0,none⟩)] 222)).alloc (.cells #[.pointer (some ⟨3,222,none⟩),.pointer (some ⟨w6.heap.size,0,none⟩),.int .u64 150] 284)).alloc (.cells #[.pointer (some ⟨3,222,none⟩),.pointer (some ⟨w6.heap.size,0,none⟩),.int .u64 150] 284)).alloc (.cells #[.pointer (some ⟨eg,0,none⟩)] 218));rw[←hW6]at hw7;have b66:Below w6.heap.size w6 W6:=by rw[hW6];exact qah (qah (qah (qah (tA5 _ _) _) _) _) _
    have AH:=P6.below b66 P6.lt;have AI:=E6.below b66 E6.lt;have AJ:=G6.below b66 G6.lt;have AK:=Z6.below b66 Z6.lt;have AL:=A6.trans (b66.mono A6.size);have pw:w.heap.size≤p:=by have:=PS.o;have:=AB.size;omega
    have ne1:eg≠p:=by have:=ES.o;have:=P4.lt;have:=S5.o;omega
    have ne2:G≠p:=by have:=G3.lt;have:=PS.o;omega
    have ne3:w.heap.size+1≠p:=by have:=Z3.lt;have:=PS.o;omega
    have p7:Blk w7 p 218 #[.pointer (some ⟨eg,0,none⟩)]:=by rw[hw7];exact AH.set_ 0 _
    have e7:Blk w7 eg 224 #[.int .i64 R.op,.int .i64 ro,.int .i64 21]:=by rw[hw7];exact AI.far (p:=⟨p,0,none⟩) ne1 _
    have g7:Blk w7 G 66 X.toArray:=by rw[hw7];exact AJ.far (p:=⟨p,0,none⟩) ne2 _
    have z7:Blk w7 (w.heap.size+1) 66 #[.int .i64 0,.int .i64 0,.int .u64 0,.bool false]:=by rw[hw7];exact AK.far (p:=⟨p,0,none⟩) ne3 _
    have b7:Below w.heap.size w w7:=by rw[hw7];exact AL.setCell (p:=⟨p,0,none⟩) pw _
    obtain⟨AX,AY,AZ,P7,E7,G7,Z7,B7⟩:=zh8 ne3 (show eg≠w.heap.size+1 by have:=ES.o;have:=A5.size;have:=S5.o;have:=Z4.lt;omega) (show G≠w.heap.size+1 by have:=GS.o;have:=Z1.lt;omega) p7 e7 g7 z7 b7;clear hw7 hW6 b66 AH AI AJ AK AL p7 e7 g7 z7 b7 ne1 ne2 ne3 pw HS9 F0 F1 F2 FQ FG;refine zP ?_;refine qbf ?_;go_upto_region 9 with(fail)
    obtain⟨S,HS9⟩:=zS fun w'=>Below w.heap.size w w'∧Blk w' p 218 #[.pointer (some ⟨eg,0,none⟩)]∧Blk w' eg 224 #[.int .i64 R.op,.int .i64 ro,.int .i64 21]∧Blk w' G 66 X.toArray
    refine zrs S 8 (zq 0 5 [(5,true),(6,false),(7,false)]) ((HS9.o _).mpr ⟨B7.drew,P7.o,E7.o,G7.o⟩) ?_;obtain⟨F0,F1,FG⟩:=zh3 (fun(w':World)(h:S w')=>(((HS9.o w').mp h).2.1.cell 0).trans (show (#[.pointer (some ⟨eg,0,none⟩)]:Array Value)[0]? =some (.pointer (some ⟨eg,0,none⟩)) from rfl)) (fun(w':World)(h:S w')=>(((HS9.o w').mp h).2.2.1.cell 2).trans (show (#[.int .i64 R.op,.int .i64 ro,.int .i64 21]:Array Value)[2]? =some (.int .i64 21) from rfl)) (fun(w':World)(h:S w')=>qap ((HS9.o w').mp h).2.2.2 0 X zjq);refine qoc rfl rfl 66 (.tmp 9) rfl G 0 rfl X _ FG.o Tryz.underlying66 rfl A0.o ?_;refine zP ?_;iterate 4 (refine zr2 ?_)
    obtain⟨W8,hW8⟩:=eqx w7.drew;have b8:Below w7.heap.size w7 W8:=by rw[hW8];exact(tA5 _ _).drew
    rw[←hW8];obtain⟨Z8,B8,P8,E8,G8⟩:=zh5 (Z7.below b8 Z7.lt) (B7.trans (b8.mono B7.size)) (P7.below b8 P7.lt) (E7.below b8 E7.lt) (G7.below b8 G7.lt);clear hW8 b8;refine zw ?_;refine wp_store_row 66 (.tmp 4) (.tmp 45) rfl (w.heap.size+1) X.toArray rfl rfl 66 _ Z8.o (by simpa using A0.o) (by simp[LX.o]) (by simpa using OX.o) ?_;have gp:=P8.grown (qam _ (w.heap.size+1) X.toArray) (by intro e;injection e with e;exact AX.o e.symm);have ge:=E8.grown (qam _ (w.heap.size+1) X.toArray) (by intro e;injection e with e;exact AY.o e);have gx:=G8.grown (qam _ (w.heap.size+1) X.toArray) (by intro e;injection e with e;exact AZ.o e);have A2:=qap (Z8.setRow X.toArray) 0 X zjq;have B4:=zh1 A2;refine⟨fun _=>(HS9.o _).mpr ⟨below_setRow B8.o zo _,gp,ge,gx⟩,?_⟩;clear gp ge gx A2;refine zP ?_;iterate 2 (refine zrb ?_)
    refine qbf ?_;go_wp2_with fail
    refine bodyPost_ret (qhm rfl rfl (run_loadVar_mid _ _ 0 _ X _ B4.o Tryz.underlying66 rfl A0.o)) rfl ⟨y,0,?_,fun h=>?_,below_setRow B8.o zo _⟩
    · rw[A4.o,←A7.o]
      rfl
    rw[A4.o]at h;cases h
   |true=>
    obtain rfl:=hd1 hdec;have why:qmn c s R=if x.tok<qmm R.op R.leaf.length then 22 else 0:=by
     rw[A1.o,AG.o,A8.o,hdec,←A8.o,AV.o];rfl
    have A4:=zh1 why;clear hd1 hd2 hdec why;obtain⟨A6,Q6,G6,Z6⟩:=zh4 (A5.trans (B6.mono A5.size)) (Q4.below B6.o Q4.lt) (G4.below B6.o G4.lt) (Z4.below B6.o Z4.lt);have H6:=zh1 (H.call A6.o);have CT:=zh1 (qqj (m:Int) c s L col k g css w6 H6.o);have c3:w6.cell? ⟨L.tg,m*6+3,none⟩=some (.int .u32 (x.tok:Int)):=H6.st.tens.cell ((qno HX.o zo).trans rfl);have C3:=zh1 c3;clear c3;refine(qsw _ w6).mono ?_;rintro e w7 ⟨rfl,rfl⟩;clear HS9 F0 F1 F2 FQ FG;refine zP ?_;refine qbf ?_;obtain⟨ln,hln⟩:=xeq R.leaf.length;have kop:=(Q6.cell 0).trans AE.o;have k47:=(Q6.cell 47).trans AN.o;rw[hln]at k47 A4;have B9:=zh1 hln;clear hln;go_wp2_with fail
    refine(qqa R.op (ln:Int) _).mono ?_;rintro e w8 ⟨rfl,rfl⟩;rw[qu8];obtain⟨K,hK⟩:=xeq (qmm R.op ln);rw[hK]at A4 ⊢;have BA:=zh1 hK;clear hK kop k47;have x0:=(G6.cell 0).trans X0.o;go_wp2_with fail
    refine CT.o.mono ?_;rintro e w9 ⟨rfl,rfl⟩;rw[if_pos ⟨by omega,by have:=HM.o;omega⟩,tBe];clear x0;have c3:=C3.o;have AM:=zh1 (qap G6.o 0 X zjq);obtain⟨tk,htk⟩:=xeq x.tok;rw[htk]at c3 A4;clear htk;by_cases hlt:tk<K
    ·
     have ql:(tk:Int)<K:=zo;have A3:=zh1 (show qmn c s R=22 by rw[A4.o,if_pos hlt]);clear hlt;go_wp2_with (first
      |(refine zld (AM.o) zu66 A0.o ?_)
      |(refine zst (Z6.o) A0.o (by simp[LX.o]) OX.o ?_))
     have A2:=qap ((Z6.o).setRow X.toArray) 0 X zjq;refine bodyPost_ret (qhm rfl rfl (run_loadVar_mid _ _ 0 _ X _ A2 Tryz.underlying66 rfl A0.o)) rfl ⟨y,0,?_,fun h=>?_,below_setRow (A6.o) zo _⟩
     · rw[A3.o,←A7.o]
       rfl
     rw[A3.o]at h;cases h
    have ql:¬(tk:Int)<K:=zo;have A3:=zh1 (show qmn c s R=0 by rw[A4.o,if_neg hlt]);clear hlt;go_wp2_with (first
     |(refine zld (AM.o) zu66 A0.o ?_)
     |(refine zst (Z6.o) A0.o (by simp[LX.o]) OX.o ?_))
    have A2:=qap (Z6.setRow X.toArray) 0 X zjq;refine bodyPost_ret (qhm rfl rfl (run_loadVar_mid _ _ 0 _ X _ A2 Tryz.underlying66 rfl A0.o)) rfl ⟨y,K,?_,fun h=>⟨AU.o,by rw[←BA.o,B9.o]⟩,below_setRow A6.o zo _⟩;rw[A3.o,←A7.o];rfl
 have A1:=zh1 (qua (c:=c) (s:=s) (R:=R) (by rw[A9.o];exact h0));have qn:((en:Int)==0)=false:=by simp;omega
 obtain⟨y,hyz⟩:∃y:Gra,y=⟨0,0,0,false⟩:=⟨_,rfl⟩;obtain⟨X,hX⟩:=xeq (grav y);have lX:X.length=4:=by rw[←hX];rfl
 have oX:∀u∈X,u.oneCell'=true:=by
  rw[←hX];intro u hu;unfold grav at hu;simp only[List.mem_cons,List.not_mem_nil,or_false]at hu;rcases hu with rfl|rfl|rfl|rfl<;>rfl
 obtain⟨BT,A7,LX,OX⟩:=zh4 (show Tryz.prog.built 66 []=some X.toArray by rw[←hX,hyz];exact qsn) hX lX oX;have A0:=zh1 (zI 66 LX.o);clear hX lX oX h0 hyz;go_wp2_with (first
  |(refine qbj rfl ⟨.agg X.toArray,qgq 66 _ rfl _ _ BT.o (by simp[Act.eval]),?_⟩)
  |(refine zst Z1.o A0.o (by simp[LX.o]) OX.o ?_))
 have A2:=qap ((Z1.o).setRow X.toArray) 0 X zjq;refine bodyPost_ret (qhm rfl rfl (run_loadVar_mid _ _ 0 _ X _ A2 Tryz.underlying66 rfl A0.o)) rfl ⟨y,0,?_,fun h=>?_,below_setRow (AA.o) zo _⟩
 · rw[A1.o,←A7.o]
   rfl
 rw[A1.o]at h;cases h
def Rsp.Shape (A:Rsp):Prop:=A.hd.Ok∧A.tok.2.2.length=32
theorem quf(n:Nat):(rWhy n).Shape:=⟨Hd.zero_Ok,by simp[rWhy,qiu,qgt]⟩
theorem qug(n:Nat):(qmo n).Shape:=⟨Hd.zero_Ok,by simp[qmo,qiu,qgt]⟩
theorem quh(n:Nat)(bs:List Nat)(hs:List (List Nat)):({qiu with n:=n,bytes:=bs,hashes:=hs}:Rsp).Shape:=⟨Hd.zero_Ok,by simp[qiu,qgt]⟩
theorem qui(ho:t.hd.Ok):(qmr c s R t).Shape:=by
 unfold qmr;split
 · exact⟨ho,by simp[qiu,qgt]⟩
 split
 · split
   · exact quf _
   exact quh _ _ []
 split
 · split
   · exact quf _
   exact quh _ [] _
 split
 · exact quf _
 exact quh _ [] _
theorem quj(hs:s.Ok):(qmz c s R).2.Shape:=by
 unfold qmz;split
 · unfold qms
   repeat' split
   all_goals first|exact quf _|exact qug _
 split
 · unfold qmw
   repeat' split
   all_goals first|exact quf _|exact qug _|exact⟨Hd.zero_Ok,qjz _ _⟩
 split
 · unfold qmx
   repeat' split
   all_goals first|exact quf _|exact qug _
 split
 · unfold qmy
   repeat' split
   all_goals first|exact quf _|exact qug _
 split
 · exact quf _
 rename_i t ht
 split
 · unfold qmq
   repeat' split
   all_goals first|exact quf _|exact qug _
 split
 · unfold qmt
   split
   · exact quf _
   exact qug _
 split
 · unfold qmu
   repeat' split
   all_goals first|exact quf _|exact qug _
 split
 · unfold qmv
   split
   · exact quf _
   exact qug _
 exact qui (s:=s) (hs.tre (Sta.tree_some ht).2.1).hd
theorem RspV.row{base:Nat}{A:Rsp}{cs X:Array Value}(h:RspV W col base v A)(hz:Blk W G 57 cs)(hb:base'≤base):RspV (W.setRow G X) col base' v A:=by
 obtain⟨bv,hv,cav,e,h1,h2,h3,h4,h5,h6⟩:=h;exact⟨bv,hv,cav,e,qde (tB3 h1 (qam _ G X) (.inr (qa3 h1 hz zdc))) hb,
  ⟨h2.1,qde (tB3 h2.2 (qam _ G X) (.inr (qa3 h2.2 hz zdc))) hb⟩,
  qde (tB3 h3 (qam _ G X) (.inr (qa3 h3 hz zdc))) hb,h4,h5,h6⟩
theorem Did.pre(hb:Zb w W)(h:Did W col w' col' k g c css s s'):Did w col w' col' k g c css s s':=
 ⟨h.mdl,h.old,(Turns.of_below _ hb).trans h.turns⟩
theorem RspV.cells{base:Nat}{A:Rsp}(h:RspV W col base v A)(hs:A.Shape):∃X:List Value,v=.agg X.toArray∧X.length=106∧∀u∈X,u.oneCell'=true:=by
 obtain⟨bv,hv,cav,e,h1,h2,h3,-⟩:=h;obtain⟨A1,n1,c1,rfl,-⟩:=h1.sl;obtain⟨A2,n2,c2,rfl,-⟩:=h2.sl;obtain⟨A3,n3,c3,rfl,-⟩:=h3.sl;exact⟨_,e,qq0 _ _ _ _ (qnm hs.1) hs.2,qq1 _ _ _ _ rfl rfl rfl⟩
theorem quk(a b c d:Value)(R M:List Value)(hR:R.length=32)(hM:M.length=32):Tryz.prog.built 57 [(4,.agg (a::b::c::d::(R++M)).toArray)]=some (Value.int .i64 0::.int .u64 0::.slice none 0 0::.slice none 0 0::((a::b::c::d::(R++M))++tokv qgt.1 (.slice none 0 0) qgt.2.2)).toArray:=by
 obtain⟨a0,a1,a2,a3,a4,a5,a6,a7,a8,a9,a10,a11,a12,a13,a14,a15,a16,a17,a18,a19,a20,a21,a22,a23,a24,a25,a26,a27,a28,a29,a30,a31,rfl⟩:=qgp R hR;obtain⟨b0,b1,b2,b3,b4,b5,b6,b7,b8,b9,b10,b11,b12,b13,b14,b15,b16,b17,b18,b19,b20,b21,b22,b23,b24,b25,b26,b27,b28,b29,b30,b31,rfl⟩:=qgp M hM;kernel_rfl
theorem qul{h:Hd}(ho:h.Ok):Tryz.prog.built 57 [(4,.agg (hdv h).toArray)]=some (qqd {qiu with hd:=h}).toArray:=
 quk _ _ _ _ (byv h.root) (byv h.tag) (by rw[qat,ho.rootl]) (by rw[qat,ho.tagl])
theorem qum(t:Tre)(a b d:Value)(j:Nat):(trev t a b d)[7+j]? =(hdv t.hd)[j]? :=by
 unfold trev;rw[show 7+j=j+1+1+1+1+1+1+1 by omega];simp only[tBc]
theorem qun{a:Rsp}(d5:Did W0 col W5 col5 k g c css s s')(r5:RspV W5 col5 W0.heap.size v5 a)(hs:a.Shape)(z0:Blk W0 (w.heap.size+1) 57 Tryz.zeroCells57)(g0:col (w.heap.size+1)=0)(hk:Kind k)(b0:Zb w W0):
 ∃X:List Value,v5=.agg X.toArray∧RspK X∧Hid (Blk W5 (w.heap.size+1) 57 Tryz.zeroCells57)∧Hid (RspV (W5.setRow (w.heap.size+1) X.toArray) col5 w.heap.size v5 a)∧Hid (Did w col (W5.setRow (w.heap.size+1) X.toArray) col5 k g c css s s'):=by
 obtain⟨X,rfl,lX,oX⟩:=r5.cells hs;have z5:Blk W5 (w.heap.size+1) 57 Tryz.zeroCells57:=(d5.turns.block _ z0.lt (by rw[g0];exact qr6 hk)).trans z0;have g5:col5 (w.heap.size+1)=0:=(d5.turns.same _ z0.lt).trans g0;exact⟨X,rfl,⟨lX,oX⟩,z5,r5.row (X:=X.toArray) z5 b0.size,(d5.pre b0).row0 hk X.toArray g5 zo⟩
theorem quo{f:FuncId}{args:Array Value}{K:Ending→World→Prop}{A r:Rsp}(HA:Hid (A=r))(HB:Hid (s'=s1))(HSH:Hid A.Shape)(HZ:Hid (Blk W0 (w.heap.size+1) 57 Tryz.zeroCells57))(HG:Hid (col (w.heap.size+1)=0))(HK:Hid (Kind k))(B0:Hid (Zb w W0))
 (hc:Zc f args W0 fun e w'=>∃v col',e=.returned v∧RspV w' col' W0.heap.size v r∧Did W0 col w' col' k g c css s s1)
 (h:∀X W5 col5,Hid (Blk W5 (w.heap.size+1) 57 Tryz.zeroCells57)→RspK X→Hid (RspV (W5.setRow (w.heap.size+1) X.toArray) col5 w.heap.size (.agg X.toArray) A∧Did w col (W5.setRow (w.heap.size+1) X.toArray) col5 k g c css s s')→K (.returned (.agg X.toArray)) W5:=by
  (intro X W5 col5 Z5 pk RD
   go_wp2_with (refine qqn _ _ _ X Z5.o pk ?_)
   exact qqo (Z5.setRow X.toArray) pk ⟨_,col5,rfl,RD.o⟩)):Zc f args W0 K:=by
 refine hc.mono ?_;rintro e W5 ⟨v5,col5,rfl,r5,d5⟩;rw[←HA.o]at r5;rw[←HB.o]at d5;obtain⟨X,rfl,pk,Z5,R9,D9⟩:=qun d5 r5 HSH.o HZ.o HG.o HK.o B0.o;exact h X W5 col5 Z5 pk ⟨R9.o,D9.o⟩
theorem qup(c:Cfg)(s:Sta)(L:Loc)(col:Col)(k g:Nat)(css:List (List Value))(R:Req)(Ac:Option Addr)(cc:Nat)(Al:Option Addr)(cl:Nat)(w:World)(hk:Kind k)(hc:c.Ok)(hs:s.Ok)(h:Mdl w col k g c s L css)
 (hr:Asked w col R Ac cc Al cl)(hT:Tabs w)(he:(qiw R).1=0):
 Zc 54 #[.pointer (some ⟨g,0,none⟩),.agg (reqv R (.slice Ac R.cavs.length cc) (.slice Al R.leaf.length cl)).toArray] w fun e w'=>∃v col',e=.returned v∧RspV w' col' w.heap.size v (qmz c s R).2∧Did w col w' col' k g c css s (qmz c s R).1:=by
 obtain⟨Q,hQ,rlen,rest,W0,hW0,q0,z0,b0⟩:=qr9 R Ac cc Al cl w hr.good.tag;rw[hQ];have hG0:=h.fin.none (b:=w.heap.size+1) zo;have D0:=Did.same (css:=css) h b0;obtain⟨H,A8,Q0,Z0,B0,A1,A9,HK⟩:=zh8 h hW0 q0 z0 b0 hG0 D0 hk;obtain⟨HS,HR,RL,AA,HQ⟩:=zh5 hs hr rlen rest hQ;clear h hW0 q0 z0 b0 hG0 D0 hk hs hr rlen rest hQ;obtain⟨HC,A5,AB,A2⟩:=zh4 hc (hT.below B0.o hT.size) he (quj (c:=c) (R:=R) HS.o);have hop:=qt9 he;obtain⟨A3,A4⟩:=zh2 (qap Q0.o 0 Q zjq) (zI 34 RL.o);obtain⟨op,hop'⟩:=xeq R.op;rw[hop']at hop;have k0:=(Q0.cell 0).trans (show Q.toArray[0]? =some (.int .i64 op) by rw[tA3,←hop',←HQ.o];rfl);have k35:=(Q0.cell 35).trans (show Q.toArray[35]? =some (.int .i64 R.tree) by rw[tA3];exact AA.o 0);obtain⟨A6,A0,HW,AW⟩:=zh4 k35 hop' (H.call B0.o) (HR.call B0.o);clear hc hT he hop' k35;cases htr:s.tree R.tree with
 |none=>
  obtain⟨CT,AC⟩:=zh2 (qqk R.tree c s L col k g css W0 HS.o HW.o htr) htr;clear htr;have k0':=k0;rw[A8.o]at k0';go_enter Tryz.func54,Tryz.ntmps54
  go_upto_region 1 with(fail)
  rw[←A8.o];clear k0';have k35:=A6.o;go_wp2_with fail
  refine CT.o.mono ?_;rintro e w' ⟨rfl,rfl⟩;clear k35;have no:op≠6→op≠10→op≠11→op≠12→qmz c s R=(s,rWhy 23):=by
   intro h6 h10 h11 h12;unfold qmz;rw[A0.o,if_neg h6,if_neg h10,if_neg h11,if_neg h12,AC.o]
  have hcases:op=6∨op=10∨op=11∨op=12∨op=1∨op=2∨op=3∨op=4∨op=5∨op=7∨op=8∨op=9:=zo;clear hop;rcases hcases with rfl|rfl|rfl|rfl|hrest
  ·
   clear no;have hd:qmz c s R=qms c s R:=by unfold qmz;rw[if_pos A0.o]
   obtain⟨HA,HB⟩:=zh2 (show (qmz c s R).2=(qms c s R).2 by rw[hd]) (show (qmz c s R).1=(qms c s R).1 by rw[hd]);have C1:=qsa c s L col k g css R Ac cc Al cl W0 HK.o HC.o HS.o HW.o AW.o A5.o (qtb (o:=35) (l:=[(1,1,35),(1,1,36),(1,1,39)]) AB.o (by rw[A0.o];rfl) zm).1;rw[HQ.o]at C1;have CL:=zh1 C1;clear hd C1;go_wp2_with (refine zld A3.o zu34 A4.o ?_)
   exact quo HA HB A2 Z0 A1 HK B0 (CL.o)
  ·
   clear no;have hd:qmz c s R=qmw c s R:=by unfold qmz;rw[if_neg (by rw[A0.o];decide),if_pos A0.o]
   obtain⟨HA,HB⟩:=zh2 (show (qmz c s R).2=(qmw c s R).2 by rw[hd]) (show (qmz c s R).1=(qmw c s R).1 by rw[hd]);have C1:=qsh c s L col k g css R Ac cc Al cl W0 HK.o HC.o HS.o HW.o AW.o A5.o;rw[HQ.o]at C1;have CL:=zh1 C1;clear hd C1;go_wp2_with fail
   refine zca (qdn 10 W0) ?_;rw[show qdl 10=false from rfl];go_wp2_with (refine zld A3.o zu34 A4.o ?_)
   exact quo HA HB A2 Z0 A1 HK B0 (CL.o)
  ·
   clear no;have hd:qmz c s R=qmx s R:=by unfold qmz;rw[if_neg (by rw[A0.o];decide),if_neg (by rw[A0.o];decide),if_pos A0.o]
   obtain⟨HA,HB⟩:=zh2 (show (qmz c s R).2=(qmx s R).2 by rw[hd]) (show (qmz c s R).1=(qmx s R).1 by rw[hd]);have C1:=qrp c s L col k g css R Ac cc Al cl W0 HK.o HS.o HW.o AW.o;rw[HQ.o]at C1;have CL:=zh1 C1;clear hd C1;go_wp2_with fail
   refine zca (qdn 11 W0) ?_;rw[show qdl 11=false from rfl];go_wp2_with (refine zld A3.o zu34 A4.o ?_)
   exact quo HA HB A2 Z0 A1 HK B0 (CL.o)
  ·
   clear no;have hd:qmz c s R=qmy s R:=by unfold qmz;rw[if_neg (by rw[A0.o];decide),if_neg (by rw[A0.o];decide),if_neg (by rw[A0.o];decide),if_pos A0.o]
   obtain⟨HA,HB⟩:=zh2 (show (qmz c s R).2=(qmy s R).2 by rw[hd]) (show (qmz c s R).1=(qmy s R).1 by rw[hd]);have C1:=qrr c s L col k g css R Ac cc Al cl W0 HK.o HS.o HW.o AW.o;rw[HQ.o]at C1;have CL:=zh1 C1;clear hd C1;go_wp2_with fail
   refine zca (qdn 12 W0) ?_;rw[show qdl 12=false from rfl];go_wp2_with (refine zld A3.o zu34 A4.o ?_)
   exact quo HA HB A2 Z0 A1 HK B0 (CL.o)
  have A7:=zh1 (no zo zo zo zo);have e6:(op==6)=false:=by simp;omega
  have ht:qdl op=true:=by unfold qdl;exact decide_eq_true zo
  have AG:=zh1 ht;clear no hrest ht;go_wp2_with fail
  refine zca (qdn op W0) ?_;rw[AG.o];go_wp2_with fail
  exact qra A7 HK (A1.o) (qqi 23 W0) (Z0.o) (A9.o)
 |some t=>
  obtain⟨hp,ht,h0,h4⟩:=Sta.tree_some htr;obtain⟨n,hn⟩:∃n:Nat,R.tree=n:=⟨R.tree.toNat,by omega⟩;rw[hn,tBe]at ht;obtain⟨CT,AC,HN,HT⟩:=zh4 (qql n t c s L col k g css W0 HS.o HW.o ht h0 h4) htr hn ht;clear hp h0 h4;have k35:=A6.o;rw[hn]at k35;have A6:=zh1 k35;have k0':=k0;rw[A8.o]at k0';have hto:=HS.tre ht;obtain⟨-,Ad,cd,Al',cl',Aq,cq,-,hcell,-,-,-⟩:=HW.st.tree HS.o ht;obtain⟨HV,hHV⟩:=xeq (hdv t.hd);have AH:=zh1 (show W0.rangeAt L.rg (n*75+7) HV from fun j u hu=>by
   have h7:=hcell (7+j) u ((qum _ _ _ _ j).trans (by rw[hHV];exact hu));rw[←Nat.add_assoc]at h7;exact h7)
  have lHV:HV.length=68:=by rw[←hHV];exact qnm hto.hd
  obtain⟨AI,AJ,AE⟩:=zh3 (zI 55 lHV) hHV hto;clear htr hn ht k35 hto hcell hHV lHV;go_enter Tryz.func54,Tryz.ntmps54
  go_upto_region 1 with(fail)
  rw[←A8.o];clear k0';have k35:=A6.o;go_wp2_with fail
  refine CT.o.mono ?_;rintro e w' ⟨rfl,rfl⟩;clear k35;have yes:op≠6→op≠10→op≠11→op≠12→qmz c s R=(if op=1 then qmq c s R t else if op=7 then qmt c s R t else if op=8 then qmu s R else if op=9 then qmv c s R t else(s,qmr c s R t)):=by
   intro h6 h10 h11 h12;unfold qmz;rw[A0.o,if_neg h6,if_neg h10,if_neg h11,if_neg h12,AC.o]
  have hcases:op=6∨op=10∨op=11∨op=12∨op=1∨op=2∨op=3∨op=4∨op=5∨op=7∨op=8∨op=9:=zo;clear hop;rcases hcases with rfl|rfl|rfl|rfl|rfl|rfl|rfl|rfl|rfl|rfl|rfl|rfl
  ·
   clear yes;have hd:qmz c s R=qms c s R:=by unfold qmz;rw[if_pos A0.o]
   obtain⟨HA,HB⟩:=zh2 (show (qmz c s R).2=(qms c s R).2 by rw[hd]) (show (qmz c s R).1=(qms c s R).1 by rw[hd]);have C1:=qsa c s L col k g css R Ac cc Al cl W0 HK.o HC.o HS.o HW.o AW.o A5.o (qtb (o:=35) (l:=[(1,1,35),(1,1,36),(1,1,39)]) AB.o (by rw[A0.o];rfl) zm).1;rw[HQ.o]at C1;have CL:=zh1 C1;clear hd C1;go_wp2_with (refine zld A3.o zu34 A4.o ?_)
   exact quo HA HB A2 Z0 A1 HK B0 (CL.o)
  ·
   clear yes;have hd:qmz c s R=qmw c s R:=by unfold qmz;rw[if_neg (by rw[A0.o];decide),if_pos A0.o]
   obtain⟨HA,HB⟩:=zh2 (show (qmz c s R).2=(qmw c s R).2 by rw[hd]) (show (qmz c s R).1=(qmw c s R).1 by rw[hd]);have C1:=qsh c s L col k g css R Ac cc Al cl W0 HK.o HC.o HS.o HW.o AW.o A5.o;rw[HQ.o]at C1;have CL:=zh1 C1;clear hd C1;go_wp2_with fail
   refine zca (qdn 10 W0) ?_;rw[show qdl 10=false from rfl];go_wp2_with (refine zld A3.o zu34 A4.o ?_)
   exact quo HA HB A2 Z0 A1 HK B0 (CL.o)
  ·
   clear yes;have hd:qmz c s R=qmx s R:=by unfold qmz;rw[if_neg (by rw[A0.o];decide),if_neg (by rw[A0.o];decide),if_pos A0.o]
   obtain⟨HA,HB⟩:=zh2 (show (qmz c s R).2=(qmx s R).2 by rw[hd]) (show (qmz c s R).1=(qmx s R).1 by rw[hd]);have C1:=qrp c s L col k g css R Ac cc Al cl W0 HK.o HS.o HW.o AW.o;rw[HQ.o]at C1;have CL:=zh1 C1;clear hd C1;go_wp2_with fail
   refine zca (qdn 11 W0) ?_;rw[show qdl 11=false from rfl];go_wp2_with (refine zld A3.o zu34 A4.o ?_)
   exact quo HA HB A2 Z0 A1 HK B0 (CL.o)
  ·
   clear yes;have hd:qmz c s R=qmy s R:=by unfold qmz;rw[if_neg (by rw[A0.o];decide),if_neg (by rw[A0.o];decide),if_neg (by rw[A0.o];decide),if_pos A0.o]
   obtain⟨HA,HB⟩:=zh2 (show (qmz c s R).2=(qmy s R).2 by rw[hd]) (show (qmz c s R).1=(qmy s R).1 by rw[hd]);have C1:=qrr c s L col k g css R Ac cc Al cl W0 HK.o HS.o HW.o AW.o;rw[HQ.o]at C1;have CL:=zh1 C1;clear hd C1;go_wp2_with fail
   refine zca (qdn 12 W0) ?_;rw[show qdl 12=false from rfl];go_wp2_with (refine zld A3.o zu34 A4.o ?_)
   exact quo HA HB A2 Z0 A1 HK B0 (CL.o)
  ·
   have hd:qmz c s R=qmq c s R t:=by rw[yes zdc zdc zdc zdc];rfl
   obtain⟨HA,HB⟩:=zh2 (show (qmz c s R).2=(qmq c s R t).2 by rw[hd]) (show (qmz c s R).1=(qmq c s R t).1 by rw[hd]);have C1:=qro c s L col k g css n t R Ac cc Al cl W0 HK.o HC.o HS.o HW.o AW.o HN.o HT.o (qta AB.o A0.o);rw[HQ.o]at C1;have CL:=zh1 C1;clear hd C1 yes;go_wp2_with fail
   refine zca (qdn 1 W0) ?_;rw[show qdl 1=true from rfl];go_wp2_with (refine zld A3.o zu34 A4.o ?_)
   exact quo HA HB A2 Z0 A1 HK B0 (CL.o)
  ·
   have hd:qmz c s R=(s,{qiu with hd:=t.hd}):=by
    rw[yes zdc zdc zdc zdc];show (s,qmr c s R t)=_;unfold qmr;rw[if_pos A0.o]
   have A7:=zh1 hd;clear hd yes;go_wp2_with fail
   refine zca (qdn 2 W0) ?_;rw[show qdl 2=true from rfl];obtain⟨X,hX⟩:=xeq (qqd {qiu with hd:=t.hd});have lX:X.length=106:=by rw[←hX];exact qqe _ AE.hd (by simp[qiu,qgt])
   have oX:∀u∈X,u.oneCell'=true:=by rw[←hX];exact qqf _
   have bT:Tryz.prog.built 57 [(4,.agg HV.toArray)]=some X.toArray:=by rw[←hX,←AJ.o];exact qul AE.hd
   obtain⟨HX,LX,OX,BT,AF,AD⟩:=zh6 hX lX oX bT (zI 57 lX) qqg;clear hX lX oX bT;go_wp2_with (first
    |(refine zld AH.o zu55 AI.o ?_)
    |(refine qbj rfl ⟨.agg X.toArray,qgq 57 _ rfl _ _ BT.o (by simp[Act.eval,Act.put]),?_⟩)
    |(refine zst Z0.o AF.o (by simp[LX.o,AD.o]) OX.o ?_))
   have AK:=qap (Z0.setRow X.toArray) 0 X zjq;exact zrt AK zu57 AF.o ⟨_,col,rfl,(by rw[A7.o,←HX.o];exact RspV.plain _ _ _ _ rfl rfl rfl),(by rw[A7.o];exact A9.row0 HK.o X.toArray A1.o zo)⟩
  ·
   have hd:qmz c s R=(s,qmr c s R t):=by rw[yes zdc zdc zdc zdc];rfl
   obtain⟨HA,HB⟩:=zh2 (show (qmz c s R).2=((s,qmr c s R t)).2 by rw[hd]) (show (qmz c s R).1=((s,qmr c s R t)).1 by rw[hd]);have C1:=qs7 c s L col k g css n t R Ac cc Al cl W0 HK.o HS.o HW.o AW.o HT.o A5.o (.inl A0.o);rw[HQ.o]at C1;have CL:=zh1 C1;clear hd C1 yes;go_wp2_with fail
   refine zca (qdn 3 W0) ?_;rw[show qdl 3=true from rfl];go_wp2_with (refine zld A3.o zu34 A4.o ?_)
   exact quo HA HB A2 Z0 A1 HK B0 (CL.o)
  ·
   have hd:qmz c s R=(s,qmr c s R t):=by rw[yes zdc zdc zdc zdc];rfl
   obtain⟨HA,HB⟩:=zh2 (show (qmz c s R).2=((s,qmr c s R t)).2 by rw[hd]) (show (qmz c s R).1=((s,qmr c s R t)).1 by rw[hd]);have C1:=qs7 c s L col k g css n t R Ac cc Al cl W0 HK.o HS.o HW.o AW.o HT.o A5.o (.inr (.inl A0.o));rw[HQ.o]at C1;have CL:=zh1 C1;clear hd C1 yes;go_wp2_with fail
   refine zca (qdn 4 W0) ?_;rw[show qdl 4=true from rfl];go_wp2_with (refine zld A3.o zu34 A4.o ?_)
   exact quo HA HB A2 Z0 A1 HK B0 (CL.o)
  ·
   have hd:qmz c s R=(s,qmr c s R t):=by rw[yes zdc zdc zdc zdc];rfl
   obtain⟨HA,HB⟩:=zh2 (show (qmz c s R).2=((s,qmr c s R t)).2 by rw[hd]) (show (qmz c s R).1=((s,qmr c s R t)).1 by rw[hd]);have C1:=qs7 c s L col k g css n t R Ac cc Al cl W0 HK.o HS.o HW.o AW.o HT.o A5.o (.inr (.inr A0.o));rw[HQ.o]at C1;have CL:=zh1 C1;clear hd C1 yes;go_wp2_with fail
   refine zca (qdn 5 W0) ?_;rw[show qdl 5=true from rfl];go_wp2_with (refine zld A3.o zu34 A4.o ?_)
   exact quo HA HB A2 Z0 A1 HK B0 (CL.o)
  ·
   by_cases hn0:n=0
   ·
    subst hn0;have hd:qmz c s R=(s,rWhy 24):=by
     rw[yes zdc zdc zdc zdc];show qmt c s R t=_;unfold qmt;rw[if_pos (.inl HN.o)]
    have A7:=zh1 hd;clear hd yes;go_wp2_with fail
    refine zca (qdn 7 W0) ?_;rw[show qdl 7=true from rfl];have k35:=A6.o;go_wp2_with fail
    exact qra A7 HK (A1.o) (qqi 24 W0) (Z0.o) (A9.o)
   have qn:((n:Int)==0)=false:=by simp;omega
   have hd:qmz c s R=qmt c s R t:=by rw[yes zdc zdc zdc zdc];rfl
   obtain⟨HA,HB⟩:=zh2 (show (qmz c s R).2=(qmt c s R t).2 by rw[hd]) (show (qmz c s R).1=(qmt c s R t).1 by rw[hd]);have C1:=qsl c s L col k g css n t R Ac cc Al cl W0 HK.o HS.o HW.o AW.o HT.o HN.o hn0 A0.o;rw[HQ.o]at C1;have CL:=zh1 C1;clear hd C1 yes hn0;go_wp2_with fail
   refine zca (qdn 7 W0) ?_;rw[show qdl 7=true from rfl];have k35:=A6.o;go_wp2_with (refine zld A3.o zu34 A4.o ?_)
   exact quo HA HB A2 Z0 A1 HK B0 (CL.o)
  ·
   by_cases hn0:n=0
   ·
    subst hn0;have hd:qmz c s R=(s,rWhy 24):=by
     rw[yes zdc zdc zdc zdc];show qmu s R=_;unfold qmu;rw[if_pos (c:=R.tree=0) HN.o]
    have A7:=zh1 hd;clear hd yes;go_wp2_with fail
    refine zca (qdn 8 W0) ?_;rw[show qdl 8=true from rfl];have k35:=A6.o;go_wp2_with fail
    exact qra A7 HK (A1.o) (qqi 24 W0) (Z0.o) (A9.o)
   have qn:((n:Int)==0)=false:=by simp;omega
   have hd:qmz c s R=qmu s R:=by rw[yes zdc zdc zdc zdc];rfl
   obtain⟨HA,HB⟩:=zh2 (show (qmz c s R).2=(qmu s R).2 by rw[hd]) (show (qmz c s R).1=(qmu s R).1 by rw[hd]);have C1:=qsi c s L col k g css n t R Ac cc Al cl W0 HK.o HS.o HW.o AW.o HT.o HN.o hn0 A0.o;rw[HQ.o]at C1;have CL:=zh1 C1;clear hd C1 yes hn0;go_wp2_with fail
   refine zca (qdn 8 W0) ?_;rw[show qdl 8=true from rfl];have k35:=A6.o;go_wp2_with (refine zld A3.o zu34 A4.o ?_)
   exact quo HA HB A2 Z0 A1 HK B0 (CL.o)
  have hd:qmz c s R=qmv c s R t:=by rw[yes zdc zdc zdc zdc];rfl
  obtain⟨HA,HB⟩:=zh2 (show (qmz c s R).2=(qmv c s R t).2 by rw[hd]) (show (qmz c s R).1=(qmv c s R t).1 by rw[hd]);have C1:=qsj c s L col k g css n t R Ac cc Al cl W0 HK.o HC.o HS.o HW.o AW.o A5.o HT.o HN.o A0.o;rw[HQ.o]at C1;have CL:=zh1 C1;clear hd C1 yes;go_wp2_with fail
  refine zca (qdn 9 W0) ?_;rw[show qdl 9=true from rfl];go_wp2_with (refine zld A3.o zu34 A4.o ?_)
  exact quo HA HB A2 Z0 A1 HK B0 (CL.o)
structure Rest (w:World)(col:Col)(w':World)(col':Col):Prop where
 os:w'.os=w.os
 tape:w'.tape=w.tape
 output:w'.output=w.output
 size:w.heap.size≤w'.heap.size
 block:∀b,b<w.heap.size→col b=0→w'.heap[b]? =w.heap[b]? ∧col' b=0
section
variable {w w' w'' : World} {col col' col'' : Col} {p : Nat → Bool}
theorem Rest.trans(h:Rest w col w' col')(h':Rest w' col' w'' col''):Rest w col w'' col'':=
 ⟨h'.os.trans h.os,h'.tape.trans h.tape,h'.output.trans h.output,tB1 h.size h'.size,fun b hb hc=>by
  obtain⟨h1,h2⟩:=h.block b hb hc;obtain⟨h3,h4⟩:=h'.block b (tB0 hb h.size) h2;exact⟨h3.trans h1,h4⟩⟩
theorem Rest.of_turns(h:Turns p w col w' col')(h0:p 0=false):Rest w col w' col':=
 ⟨h.os,h.tape,h.output,h.size,fun b hb hc=>⟨h.block b hb (by rw[hc];exact h0),(h.same b hb).trans hc⟩⟩
theorem Rest.of_below(hb:Zb w w'):Rest w col w' col:=⟨hb.os,hb.tape,hb.output,hb.size,fun b h hc=>⟨hb.block b h,hc⟩⟩
theorem Rest.below(h:Rest w col w' col')(hc:∀b,b<B→col b=0)(hB:B≤w.heap.size):Below B w w'∧∀b,b<B→col' b=0:=
 ⟨⟨h.os,h.tape,h.output,h.size,fun b hb=>(h.block b (tB0 hb hB) (hc b hb)).1⟩,fun b hb=>(h.block b (tB0 hb hB) (hc b hb)).2⟩
theorem Rest.blk{t:TypeId}{cs:Array Value}(h:Rest w col w' col')(hb:Blk w b t cs)(hc:col b=0):Blk w' b t cs:=(h.block b hb.lt hc).1.trans hb
theorem Rest.reads(h:Rest w col w' col')(hr:Reads w w.heap.size size A n xs)(h0:0<n→∀ad,A=some ad→col ad.block=0):Reads w' w'.heap.size size A n xs:=by
 refine⟨hr.1,fun hn=>?_⟩;obtain⟨ad,e,hb,hc⟩:=hr.2 hn;refine⟨ad,e,tB0 hb h.size,fun j u hu=>?_⟩;refine(World.cell?_of_block ?_).trans (hc j u hu);rw[qa1];exact(h.block _ hb (h0 hn ad e)).1
theorem quq{base:Nat}(h:w.ownsRow base e size v n xs)(hn:0<n):
 ∃g c,v=.slice (some ⟨g,0,none⟩) n c∧base≤g∧g<w.heap.size∧(∃cs,Blk w g e cs)∧∀(col:Col) (k:Nat),col g=k→TopAt w col k e g c size n xs:=by
 obtain⟨h1,h2⟩:=h;rcases h2 with⟨rfl,rfl⟩|⟨g,cap,cur,rfl,hb,hg,hn',hc,hs,ht⟩
 · omega
 have hb':Blk w g e cur.toList.toArray:=by simpa [Blk] using hg
 refine⟨g,cap,rfl,hb,hb'.lt,⟨_,hb'⟩,fun col k hk=>⟨hk,cur.toList.drop (n*size),?_,h1,hn',hc,?_⟩⟩
 · have:xs++cur.toList.drop (n*size)=cur.toList:=by rw[←ht];exact List.take_append_drop _ _
   rw[this];exact hb'
 have hl:n*size≤cap*size:=Nat.mul_le_mul_right _ hn';rw[h1,tBk,Array.length_toList,hs];omega
theorem TopAt.recol{c:Nat}(h:TopAt w col k e g c size n xs)(hk:∀b,col b=k→col' b=k'):TopAt w col' k' e g c size n xs:=⟨hk g h.1,h.2⟩
theorem RowC.recol(h:RowC w col k v e size n xs)(hk:∀b,col b=k→col' b=k'):RowC w col' k' v e size n xs:=by
 refine⟨h.1,?_⟩;rcases h.2 with h0|⟨g,o,c,cur,e1,hc,rest⟩
 · exact .inl h0
 exact .inr ⟨g,o,c,cur,e1,hk g hc,rest⟩
theorem TextC.recol(h:TextC w col v bs)(hk:∀b,col b=5→col' b=5):TextC w col' v bs:=by
 obtain⟨A,n,c,e,h1,h2,h3,h4⟩:=h;exact⟨A,n,c,e,h1,h2,h3,fun h0=>by obtain⟨ad,h5,h6⟩:=h4 h0;exact⟨ad,h5,hk _ h6⟩⟩
theorem TextsC.recol{ls:List (List Nat)}(h:TextsC w col k v ls)(hk:∀b,col b=k→col' b=k')(h5:∀b,col b=5→col' b=5):TextsC w col' k' v ls:=by
 obtain⟨vs,h1,h2⟩:=h;exact⟨vs,h1.recol hk,fun i bs hi=>by obtain⟨u,h3,h4⟩:=h2 i bs hi;exact⟨u,h3,h4.recol h5⟩⟩
theorem TrsAt.recol{l:List Tre}(h:TrsAt w col css l)(hk:∀k,k=5∨10≤k→∀b,col b=k→col' b=k):TrsAt w col' css l:=
 ⟨h.1,fun i t ht=>by
  obtain⟨cs,h1,vd,vl,vq,e,r1,r2,r3⟩:=h.2 i t ht;exact⟨cs,h1,vd,vl,vq,e,r1.recol (hk _ (.inr zo)),r2.recol (hk _ (.inr zo)) (hk _ (.inl rfl)),r3.recol (hk _ (.inr zo)) (hk _ (.inl rfl))⟩⟩
theorem StAt.recol(h:StAt tt rt gt w col k L css s)(h0:∀b,col b=k→col' b=k')(h1:∀b,col b=k+1→col' b=k'+1)(h2:∀b,col b=k+2→col' b=k'+2)(hk:∀k,k=5∨10≤k→∀b,col b=k→col' b=k):StAt tt rt gt w col' k' L css s:=
 ⟨h.tens.recol h0,h.tres.recol h1,h.gras.recol h2,h.trs.recol hk⟩
def Col.back (col:Col):Col:=fun b=>if col b=6 then 2 else if col b=7 then 3 else if col b=8 then 4 else if col b=2∨col b=3∨col b=4 then 0 else col b
theorem Col.back_0(h:col b=0):col.back b=0:=by unfold Col.back;rw[h];simp
theorem Col.back_1(h:col b=1):col.back b=1:=by unfold Col.back;rw[h];simp
theorem Col.back_5(h:col b=5):col.back b=5:=by unfold Col.back;rw[h];simp
theorem Col.back_big(h:col b=k)(hk:10≤k):col.back b=k:=by
 unfold Col.back;rw[h,if_neg zo,if_neg zo,if_neg zo,if_neg zo]
theorem Col.back_ne(h:col.back b≠0):col b≠0:=fun e=>h (Col.back_0 e)
theorem Mdl.back(h:Mdl w col 6 g c s L css):Mdl w col.back 2 g c s L css:=
 ⟨h.blk,Col.back_1 h.own,⟨h.base.1,fun b hb=>Col.back_0 (h.base.2 b hb)⟩,fun b hb=>h.fin b (Col.back_ne hb),h.seed.recol (fun b hb=>Col.back_5 hb),
  h.st.recol (fun b hb=>by unfold Col.back;rw[hb];rfl) (fun b hb=>by unfold Col.back;rw[hb];rfl) (fun b hb=>by unfold Col.back;rw[hb];rfl) (fun k hk b hb=>by rcases hk with rfl|hk;exact Col.back_5 hb;exact Col.back_big hb hk)⟩
theorem Rest.back(h:Rest w col w' col'):Rest w col w' col'.back:=⟨h.os,h.tape,h.output,h.size,fun b hb hc=>⟨(h.block b hb hc).1,Col.back_0 (h.block b hb hc).2⟩⟩
theorem RspV.back{base:Nat}{R:Rsp}(h:RspV w col base v R):RspV w col.back base v R:=by
 obtain⟨bv,hv,cav,e,h1,h2,h3,h4,h5,h6⟩:=h;exact⟨bv,hv,cav,e,h1,h2,h3,fun g hg=>Col.back_0 (h4 g hg),fun g hg=>Col.back_0 (h5 g hg),fun g hg=>Col.back_0 (h6 g hg)⟩
def Col.three (col:Col)(a b d:Nat):Col:=fun x=>if x=a then 6 else if x=b then 7 else if x=d then 8 else col x
theorem Mdl.fork(h:Mdl w col 2 g c s L css)(hs:s.Ok)(hb:Zb w w')
 (ht:w'.ownsRow w.heap.size 92 6 vt 16 (s.tens.flatMap tenv))(hr:w'.ownsRow w.heap.size 74 75 vr 16 css.flatten)(hg:w'.ownsRow w.heap.size 66 4 vg s.gras.length (s.gras.flatMap grav)):
 ∃(L6:Loc) (col':Col),vt=.slice (some ⟨L6.tg,0,none⟩) 16 L6.tc∧vr=.slice (some ⟨L6.rg,0,none⟩) 16 L6.rc∧vg=.slice (some ⟨L6.gg,0,none⟩) s.gras.length L6.gc∧
  Mdl (((w'.setCell ⟨g,7,none⟩ vt).setCell ⟨g,8,none⟩ vr).setCell ⟨g,9,none⟩ vg) col' 6 g c s L6 css∧
  StAt 92 74 66 (((w'.setCell ⟨g,7,none⟩ vt).setCell ⟨g,8,none⟩ vr).setCell ⟨g,9,none⟩ vg) col' 2 L css s∧
  Turns (· ==1) w col (((w'.setCell ⟨g,7,none⟩ vt).setCell ⟨g,8,none⟩ vr).setCell ⟨g,9,none⟩ vg) col':=by
 have hgn:0<s.gras.length:=by obtain⟨h,_⟩:=tA8 hs.owner;exact h
 obtain⟨tg,tc,rfl,t1,t2,⟨tcs,t3⟩,t4⟩:=quq ht zdc;obtain⟨rg,rc,rfl,r1,r2,⟨rcs,r3⟩,r4⟩:=quq hr zdc;obtain⟨gg,gc,rfl,g1,g2,⟨gcs,g3⟩,g4⟩:=quq hg hgn;have n1:tg≠rg:=fun e=>by
  subst e;have:=t3.symm.trans r3;injection this with this;injection this with _ this;cases this
 have n2:tg≠gg:=fun e=>by
  subst e;have:=t3.symm.trans g3;injection this with this;injection this with _ this;cases this
 have n3:rg≠gg:=fun e=>by
  subst e;have:=r3.symm.trans g3;injection this with this;injection this with _ this;cases this
 obtain⟨col',hcol⟩:∃col':Col,col'=col.three tg rg gg:=⟨_,rfl⟩;have same:∀b,b<w.heap.size→col' b=col b:=fun b hb'=>by
  rw[hcol];unfold Col.three;rw[if_neg zo,if_neg zo,if_neg zo]
 have c6:col' tg=6:=by rw[hcol];unfold Col.three;rw[if_pos rfl]
 have c7:col' rg=7:=by rw[hcol];unfold Col.three;rw[if_neg (Ne.symm n1),if_pos rfl]
 have c8:col' gg=8:=by rw[hcol];unfold Col.three;rw[if_neg (Ne.symm n2),if_neg (Ne.symm n3),if_pos rfl]
 have fin':Fin_ col' w':=fun b hb'=>by
  rw[hcol]at hb';unfold Col.three at hb';split at hb'
  · omega
  split at hb'
  · omega
  split at hb'
  · omega
  exact tB0 (h.fin b hb') hb.size
 have T0:Turns (fun _=>false) w col w' col':=(Turns.of_below (fun _=>false) hb).recolour same;have gl:g<w.heap.size:=h.blk.lt;have cg:col' g=1:=(same g gl).trans h.own;have gw':Blk w' g 117 (mdlv c s L):=(hb.block g gl).trans h.blk;obtain⟨W1,hW1⟩:=eqx (w'.setCell ⟨g,7,none⟩ (.slice (some ⟨tg,0,none⟩) 16 tc));obtain⟨W2,hW2⟩:=eqx (W1.setCell ⟨g,8,none⟩ (.slice (some ⟨rg,0,none⟩) 16 rc));obtain⟨W3,hW3⟩:=eqx (W2.setCell ⟨g,9,none⟩ (.slice (some ⟨gg,0,none⟩) s.gras.length gc));rw[←hW1,←hW2,←hW3];have T3:Turns (· ==1) w' col' W3 col':=by
  rw[hW3,hW2,hW1];exact((Turns.setCell (col:=col') _ (by simp[cg])).trans (Turns.setCell (col:=col') _ (by simp[cg]))).trans (Turns.setCell (col:=col') _ (by simp[cg]))
 have TT:Turns (· ==1) w col W3 col':=(T0.mono (fun k hk=>by cases hk)).trans T3;have kp:∀i,i≠1→KeepsCol i w' col' W3 col':=fun i hi=>T3.keeps (by simpa using hi)
 have kq:∀i,i≠1→KeepsCol i w col W3 col':=fun i hi=>TT.keeps (by simpa using hi)
 have B3:Blk W3 g 117 (mdlv c s {L with tg:=tg,tc:=tc,rg:=rg,rc:=rc,gg:=gg,gc:=gc}):=by
  rw[hW3,hW2,hW1];exact((gw'.set_ 7 _).set_ 8 _).set_ 9 _
 refine⟨{L with tg:=tg,tc:=tc,rg:=rg,rc:=rc,gg:=gg,gc:=gc},col',rfl,rfl,rfl,⟨B3,cg,⟨tB1 h.base.1 TT.size,fun b hb'=>(same b (tB0 hb' h.base.1)).trans (h.base.2 b hb')⟩,fin'.mono T3.size,h.seed.keep (kq 5 zdc),?_⟩,?_,TT⟩
 · exact⟨(t4 col' 6 c6).keep (kp 6 zdc),(r4 col' 7 c7).keep (kp 7 zdc),(g4 col' 8 c8).keep (kp 8 zdc),h.st.trs.keep fun i hi=>kq i zo⟩
 exact h.st.keep (kq 2 zdc) (kq 3 zdc) (kq 4 zdc) fun i hi=>kq i zo
theorem Mdl.unfork(h:Mdl w col 6 g c s1 L1 css1)(hst:StAt 92 74 66 w col 2 L css s):
 ∃L',Mdl (w.setCells g 4 (stav s L)) col 2 g c s L' css∧Turns (· ==1) w col (w.setCells g 4 (stav s L)) col:=by
 have T:Turns (· ==1) w col (w.setCells g 4 (stav s L)) col:=Turns.setCells _ (by simp[h.own]);have kp:∀i,i≠1→KeepsCol i w col (w.setCells g 4 (stav s L)) col:=fun i hi=>T.keeps (by simpa using hi)
 have hst':=hst.keep (kp 2 zdc) (kp 3 zdc) (kp 4 zdc) fun i hi=>kp i zo
 refine⟨{L with sa:=L1.sa,sn:=L1.sn,sc:=L1.sc},⟨?_,h.own,⟨tB1 h.base.1 T.size,h.base.2⟩,h.fin.mono T.size,h.seed.keep (kp 5 zdc),⟨hst'.tens,hst'.tres,hst'.gras,hst'.trs⟩⟩,T⟩;have hb:Blk w g 117 (mdlv c s1 L1).toList.toArray:=by simpa using h.blk
 have h2:=qn8 (stav s L) 4 w _ hb (by simp[mdlv,stav]);exact h2
end
def qur (c:Cfg)(s:Sta):Nat:=if 1024≤(s.tres[0]?.getD Tre.zero).leaves.length then 4 else if c.store<stored s+64 then 26 else 0
theorem qus(c:Cfg)(s s1:Sta)(L L1:Loc)(col:Col)(g:Nat)(css css1:List (List Value))(w:World)(hc:c.Ok)(hs:s.Ok)(h:Mdl w col 6 g c s1 L1 css1)(hst:StAt 92 74 66 w col 2 L css s):
 Zc 56 #[.pointer (some ⟨g,0,none⟩),.agg (stav s L).toArray] w fun e w'=>e=.returned (.int .i64 ((qur c s:Nat):Int))∧Zb w w':=by
 show Zc 56 #[.pointer (some ⟨g,0,none⟩),.agg #[.int .u64 (s.clock:Int),.int .u32 (s.draw:Int),.int .i64 s.lane,.slice (some ⟨L.tg,0,none⟩) 16 L.tc,.slice (some ⟨L.rg,0,none⟩) 16 L.rc,.slice (some ⟨L.gg,0,none⟩) s.gras.length L.gc]] w _;obtain⟨t,ht,-,-⟩:=hs.first;obtain⟨-,Ad,cd,Al,cl,Aq,cq,-,hcell,-,-,-⟩:=hst.tree hs ht;have hto:=hs.tre ht;obtain⟨nl,hnl⟩:=xeq t.leaves.length;have e5:=hcell 5 (.slice Al t.leaves.length cl) rfl;rw[hnl]at e5;rw[show 0*75+5=5 from rfl]at e5;have nb:nl≤1024:=by have:=hto.leaves;omega
 have hsb:stored s≤16*851968:=by rw[←qqw s hs];exact qqv hs.tres 16
 have hfw:qur c s=if 1024≤nl then 4 else if c.store<stored s+64 then 26 else 0:=by
  unfold qur;rw[ht,Option.getD_some,hnl]
 rw[hfw];have CS:=zh1 (fun(w':World)(hb:Zb w w')=>qqx s L col 2 css w' hs (hst.keep ((Turns.of_below (fun _=>false) hb).keeps rfl) ((Turns.of_below (fun _=>false) hb).keeps rfl) ((Turns.of_below (fun _=>false) hb).keeps rfl) fun i _=>(Turns.of_below (fun _=>false) hb).keeps rfl));obtain⟨st,hstd⟩:=xeq (stored s);rw[hstd]at CS hsb ⊢;have csb:c.store≤32768:=hc.store;obtain⟨cst,hcst⟩:=xeq c.store;have c2:=h.c2;rw[hcst]at c2 csb ⊢;obtain⟨E5,C2⟩:=zh2 e5 c2;clear hcell ht hto hnl e5 hfw hstd hcst c2 h hst hc hs;obtain⟨W0,hW0⟩:=eqx (w.alloc (.cells #[.int .u64 (s.clock:Int),.int .u32 (s.draw:Int),.int .i64 s.lane,.slice (some ⟨L.tg,0,none⟩) 16 L.tc,.slice (some ⟨L.rg,0,none⟩) 16 L.rc,.slice (some ⟨L.gg,0,none⟩) s.gras.length L.gc] 49));have B0:=zh1 (show Zb w W0 by rw[hW0];exact qah (tA5 _ _) _);have z0:=zNa hW0;have Z0:=zh1 z0;have e5:=qai E5.o B0.o;rw[hW0]at e5;clear z0;obtain⟨fw,hfw⟩:∃n:Nat,(if 1024≤nl then 4 else if cst<st+64 then 26 else 0)=n:=⟨_,rfl⟩;rw[hfw];have A0:=zh1 hfw;clear hfw;go_enter Tryz.func56,Tryz.ntmps56
 by_cases hl:1024≤nl
 ·
  have ql:(1024:Int)≤nl:=zo;have HF:=zh1 (show fw=4 by rw[←A0.o,if_pos hl]);clear hl;go_wp2
  go_ret
  exact⟨by rw[HF.o];rfl,by rw[←hW0];exact B0.o⟩
 have ql:¬(1024:Int)≤nl:=zo;have A1:=zh1 hl;clear hl;go_upto_region 3 with(fail)
 rw[←hW0];clear e5 hW0;obtain⟨S,HS9⟩:=zS fun w'=>Zb W0 w'
 refine zrs S 11 ((0,false)::zq 3 6 [(1,true),(2,true),(9,false),(10,false)]) ((HS9.o _).mpr ((tA5 _ _).drew)) ?_;obtain⟨F2,FS,SI⟩:=zh3 (zF HS9 (qai C2.o B0.o)) (fun(w':World)(h:S w')=>qap (Z0.below ((HS9.o w').mp h) Z0.lt) 0 (stav s L) (fun j u hu=>by simpa [stav] using hu)) (show (Tryz.prog.info? 49).map (·.size)=some 6 by kernel_rfl);refine qoc rfl rfl 49 (.tmp 3) rfl w.heap.size 0 rfl (stav s L) _ FS.o Tryz.underlying49 rfl SI.o ?_;refine zP ?_;have w1:IntKind.u64.wrap (cst:Int)=(cst:Int):=tBa _ zo;iterate 6 (refine zre rfl rfl (fun w1 hS=>by have g2:=F2.o w1 hS;clear hS;go_simp;try rfl) ?_)
 obtain⟨Wd,hWd,BD⟩:=zdr W0;rw[←hWd];clear hWd;refine zw ?_;go_simp;refine zcb (CS.o Wd (B0.trans (BD.mono B0.size))) fun w1 b1=>?_
 have B1:=zh1 (BD.trans (b1.mono BD.size));clear b1;refine⟨(HS9.o _).mpr B1.o,zput ?_⟩;refine zw ?_;go_simp;refine(qq3 (st:Int) 64 w1 zo zo zo zo).mono ?_;rintro e w2 ⟨rfl,rfl⟩;rw[show sumI (st:Int) 64=((st+64:Nat):Int) by unfold sumI;rw[if_neg zo];omega];refine⟨(HS9.o _).mpr B1.o,zput ?_⟩;by_cases hf:cst<st+64
 ·
  have qf:(cst:Int)<((st+64:Nat):Int):=zo;have qf2:(cst:Int)<(st:Int)+64:=zo;have HF:=zh1 (show fw=26 by rw[←A0.o,if_neg A1.o,if_pos hf]);clear hf;iterate 2 (refine zrb ?_)
  refine qbf ?_;clear HS9 F2 FS;go_wp2
  go_ret
  exact⟨by rw[HF.o];rfl,B0.trans (B1.mono B0.size)⟩
 have qf:¬(cst:Int)<((st+64:Nat):Int):=zo;have qf2:¬(cst:Int)<(st:Int)+64:=zo;have HF:=zh1 (show fw=0 by rw[←A0.o,if_neg A1.o,if_neg hf]);clear hf;iterate 2 (refine zrb ?_)
 refine qbf ?_;clear HS9 F2 FS;go_wp2
 go_ret
 exact⟨by rw[HF.o];rfl,B0.trans (B1.mono B0.size)⟩
theorem Mdl.leafAdd(h:Mdl w col k g c s L css)(hk:Kind k)(hs:s.Ok)(ht:s.tres[n]? =some t)(hcs:css[n]? =some (trev t vd vl vq))(hlen:vs.length=t.leaves.length)
 (htx:∀(i:Nat) (bs:List Nat),t.leaves[i]? =some bs→∃u,vs[i]? =some u∧TextC w col u bs)(hu:TextC w col u bs)(ha:AppendedC w col w' col' (11+3*n) vl v' 23 1 t.leaves.length 1 vs [u]):
 Mdl (w'.setCell ⟨L.rg,n*75+5,none⟩ v') col' k g c (s.setT n fun t=>{t with leaves:=t.leaves++[bs]}) L (css.modify n fun x=>x.set 5 v')∧TrsAt (w'.setCell ⟨L.rg,n*75+5,none⟩ v') col' css s.tres∧Turns (inP k) w col (w'.setCell ⟨L.rg,n*75+5,none⟩ v') col':=by
 obtain⟨r1,r2,r3⟩:=h.rows ht hcs;have kp:∀i,i≠11+3*n→KeepsCol i w col w' col':=fun i hi=>ha.turns.keeps (by simpa using hi)
 obtain⟨t1,t2⟩:=qrd ha hlen htx hu (kp 5 zo);exact h.treRow hk hs ht hcs (.inr (.inl rfl)) ha.turns (ha.fin h.fin) _ v' zo
  ⟨vd,vl,vq,rfl,r1.keep (kp _ zo),t1,r3.keep (kp _ zo) (kp 5 zo)⟩
  ⟨vd,v',vq,rfl,r1.keep (kp _ zo),t2,r3.keep (kp _ zo) (kp 5 zo)⟩
theorem qut(c:Cfg)(s:Sta)(L:Loc)(col:Col)(k g:Nat)(css:List (List Value))(R:Req)(Ac:Option Addr)(cc:Nat)(Al:Option Addr)(cl:Nat)(w:World)(hk:Kind k)(hc:c.Ok)(hs:s.Ok)(h:Mdl w col k g c s L css)
 (hr:Asked w col R Ac cc Al cl)(hT:Tabs w)(ha:ql8 R.op=true)(hl:∀t,s.tres[0]? =some t→t.leaves.length<1024):
 Zc 57 #[.pointer (some ⟨g,0,none⟩),.agg (reqv R (.slice Ac R.cavs.length cc) (.slice Al R.leaf.length cl)).toArray] w fun e w'=>∃col',e=.returned (.tuple #[])∧Did w col w' col' k g c css s ((s.setT 0 fun t=>{t with leaves:=t.leaves++[qn1 s R]}).pub c 0):=by
 have rlen:=qix R (.slice Ac R.cavs.length cc) (.slice Al R.leaf.length cl) hr.good.tag;have rtok:=qiy R (.slice Ac R.cavs.length cc) (.slice Al R.leaf.length cl);obtain⟨Q,hQ⟩:=xeq (reqv R (.slice Ac R.cavs.length cc) (.slice Al R.leaf.length cl));have CB:=fun(w':World)(hb:Zb w w')=>qic R (.slice Ac R.cavs.length cc) Al cl w' hr.good.fit (hr.leaf.call hb) hr.leafc hr.leafm
 rw[hQ]at rlen rtok CB ⊢;obtain⟨t,ht,hst,hq0⟩:=hs.first;obtain⟨-,Ad,cd,Al',cl',Aq,cq,hcs,hcell,-,-,-⟩:=h.st.tree hs ht;have hto:=hs.tre ht;have hl0:=hl t ht;obtain⟨W0,hW0⟩:=eqx (w.alloc (.cells Q.toArray 34));have q0:=zNa hW0;have b0:=zMa hW0;obtain⟨ti,hti⟩:=xeq R.tid;have tb:ti<4294967296:=by rw[←hti];exact hr.good.tid
 have k1:Q.toArray[1]? =some (.int .u32 (ti:Int)):=by rw[tA3,←hti];exact rtok 0 _ rfl
 obtain⟨clk,hclk⟩:=xeq s.clock;have cb:clk<18446744073709551616:=by rw[←hclk];exact hs.clock
 have c4:=h.c4;rw[hclk]at c4;have hnd:qn1 s R=be clk 8++(be ti 4++(qi2 R).2):=by unfold qn1;rw[hclk,hti]
 have hlo:=qt5 s R hr.good ha;have bl:=qt4 R ha;rw[hnd]at hlo ⊢;obtain⟨bd,hbd⟩:=xeq ((qi2 R).2);rw[hbd]at hlo bl CB ⊢;obtain⟨nl,hnl⟩:=xeq t.leaves.length;have e5:=hcell 5 (.slice Al' t.leaves.length cl') rfl;rw[hnl,show 0*75+5=5 from rfl]at e5;rw[hnl]at hl0;obtain⟨H,A4,A5,HK,HC,HS,HR,TT⟩:=zh8 h q0 b0 hk hc hs hr hT;obtain⟨RL,K1,C4,AH,HT,AI,AJ,A1⟩:=zh8 rlen k1 c4 CB ht hto hcs hnl;obtain⟨E5,AK,AL,AM,AN,A2,AO⟩:=zh7 e5 hlo bl hst hq0 (show w.heap.size<W0.heap.size by rw[hW0];simp) (zI 34 rlen);clear h q0 b0 hk hc hs hr hT rlen rtok k1 c4 CB ht hto hcs hcell hnl e5 hlo bl hst hq0 hQ hti hclk hnd hbd ha hl;go_enter Tryz.func57,Tryz.ntmps57
 go_wp2_with fail
 rw[←hW0];refine(qd2 W0).mono ?_;rintro e w1 ⟨rfl,h1,b1⟩;obtain⟨hww1,Zw1,Bw1⟩:=zh3 h1 (A4.below b1 A4.lt) (A5.trans (b1.mono A5.size));clear h1 b1 hW0;have c4:=qai C4.o Bw1.o;go_wp2_with fail
 refine(qd1 _ _ (clk) 8 _ w1 hww1.o zo (by simp only[tA6,qaw,List.length_nil,qog,qoh,qoi];omega)).mono ?_;rintro e w2 ⟨rfl,hw2,bw2,-⟩;simp only[qog,qoh,qoi]at hw2;obtain⟨hww2,Zw2,Bw2⟩:=zh3 hw2 (Zw1.below bw2 (by first|exact A2.o|omega)) (Bw1.trans (bw2.mono (by first|exact Nat.le_of_lt A2.o|omega)));clear hw2 bw2;clear c4;have k1:=(Zw2.cell 1).trans K1.o;have u1:IntKind.u64.wrap (ti:Int)=(ti:Int):=tBa _ zo;go_wp2_with fail
 refine(qd1 _ _ (ti) 4 _ w2 hww2.o zo (by simp only[tA6,qaw,List.length_nil,qog,qoh,qoi];omega)).mono ?_;rintro e w3 ⟨rfl,hw3,bw3,-⟩;simp only[qog,qoh,qoi]at hw3;obtain⟨hww3,Zw3,Bw3⟩:=zh3 hw3 (Zw2.below bw3 (by first|exact A2.o|omega)) (Bw2.trans (bw3.mono (by first|exact Nat.le_of_lt A2.o|omega)));clear hw3 bw3;clear k1 u1;have AP:=zh1 (qap Zw3.o 0 Q zjq);go_wp2_with (refine zld AP.o zu34 AO.o ?_)
 refine(AH.o w3 Bw3.o).mono ?_;rintro e w4 ⟨vb,rfl,ob,b4⟩;obtain⟨Ab,nb,cb,rfl,-,-,rb⟩:=OwnB.sl ob;obtain⟨hww4,Bw4,RB⟩:=zh3 (hww3.kept_call b4) (Bw3.trans (b4.mono Bw3.size)) rb;clear b4 rb ob;have c8:=qai H.c8 Bw4.o;go_upto_region 6 with(fail)
 clear c8;have AQ:=zh1 (qai E5.o Bw4.o);obtain⟨S,HS9⟩:=zS fun w'=>w'.cell? ⟨L.rg,5,none⟩=some (.slice Al' nl cl')
 refine zrs S 14 (zq 0 6 [(7,false),(6,true),(8,true),(9,true),(10,true),(11,true),(12,false),(13,false),(14,true)]) ((HS9.o _).mpr (AQ.o)) ?_;have F0:=zh1 (fun(w':World)(h:S w')=>(HS9.o w').mp h);iterate 7 (refine zr1 ?_)
 obtain⟨Wd,hWd,BD⟩:=zdr w4;rw[←hWd];clear hWd;have Bwd:=zh1 (Bw4.trans (BD.mono Bw4.size));refine zw ?_;go_simp;refine(qd4 _ _ _ Wd (hww4.kept_call BD.o) (by simp only[tA6,qaw,List.length_nil];omega)).mono ?_;rintro e w6 ⟨v6,rfl,o6,b6⟩;replace o6:OwnB w6 Wd.heap.size v6 (be clk 8++be ti 4):=OwnB.cast (OwnB.of o6) (by simp only[List.nil_append]);obtain⟨A6,n6,c6,rfl,-,-,r6⟩:=o6.sl;have l6:=qb4 r6;obtain⟨Bw6,R6,L6,A7⟩:=zh4 (Bwd.trans (b6.mono Bwd.size)) r6 l6 ((RB.call BD.o).call b6);clear o6 b6 r6 l6;refine⟨(HS9.o _).mpr (qai E5.o Bw6.o),zput ?_⟩;refine zw ?_;go_simp;obtain⟨w7,hw7⟩:=eqx (w6.alloc (.cells #[.slice A6 n6 c6,.slice Ab nb cb] 23));rw[←hw7];have b67:=zMa hw7;have x0:w7.cell? ⟨w6.heap.size,0,none⟩=some (.slice A6 n6 c6):=by rw[hw7];exact(qak w6 _ _ 0).trans rfl
 have x1:w7.cell? ⟨w6.heap.size,1,none⟩=some (.slice Ab nb cb):=by rw[hw7];exact(qak w6 _ _ 1).trans rfl
 have lb:=qb4 A7.o;have J:=qje w6.heap.size n6 c6 nb cb _ _ (be clk 8++be ti 4) bd w7 x0 x1 (R6.call b67) (A7.call b67) (by have h1:=L6.o;have h2:=AL.o;simp only[tA6,qaw]at h1;omega);obtain⟨HJ,Bw7⟩:=zh2 J (Bw6.trans (b67.mono Bw6.size));clear J x0 x1 b67 hw7 lb;refine⟨(HS9.o _).mpr (qai E5.o Bw7.o),zput ?_⟩;refine zw ?_;go_simp;refine HJ.o.mono ?_;rintro e w8 ⟨v8,rfl,o8,b8⟩;replace o8:OwnB w8 w7.heap.size v8 (be clk 8++(be ti 4++bd)):=OwnB.cast o8 (by simp only[List.append_assoc]);have Bw8:=zh1 (Bw7.trans (b8.mono Bw7.size));have M8:=H.call Bw8.o;obtain⟨A8,n8,c8,rfl,-,-,-⟩:=o8.sl;obtain⟨col1,hc1,tx1,fin1⟩:=qre (w:=w7) (col:=col) o8 (tA4 _) b8.size (H.fin.mono Bw7.size);have T1:Turns (fun _=>false) w7 col w8 col1:=(Turns.of_below _ b8).recolour hc1;obtain⟨AR,AS,AT⟩:=zh3 tx1 fin1 ((Turns.of_below (fun _=>false) Bw7.o).trans T1);clear tx1 fin1 T1 o8 hc1 M8 b8;refine⟨(HS9.o _).mpr (qai E5.o Bw8.o),zput ?_⟩;refine zw ?_;go_simp;obtain⟨wB,hwB⟩:=eqx (w8.alloc (.cells #[.slice A8 n8 c8] 23));rw[←hwB];have bB:=zMa hwB;have blB:=zNa hwB;have TB:=AT.trans (Turns.of_below (fun _=>false) bB);obtain⟨BB,AA,A3,BwB⟩:=zh4 bB blB TB (Bw8.trans (bB.mono Bw8.size));clear hwB bB blB TB;refine⟨(HS9.o _).mpr (qai E5.o BwB.o),zput ?_⟩;have MB:=H.keep A3.o rfl rfl (by have:=HK.o;rcases this with rfl|rfl<;>rfl) (by have:=HK.o;rcases this with rfl|rfl<;>rfl) (by have:=HK.o;rcases this with rfl|rfl<;>rfl) (fun _ _=>rfl) (AS.mono BB.size);have A0:css[0]? =some (trev t (.slice Ad t.draws.length cd) (.slice Al' nl cl') (.slice Aq t.queue.length cq)):=by rw[AJ.o,A1.o]
 obtain⟨vs,hrow,htx⟩:=(MB.rows HT.o A0).2.1;rw[A1.o]at hrow;have hvl:vs.length=t.leaves.length:=by have:=hrow.1;have:=A1.o;omega
 obtain⟨i0,hi0,hz0,hz1,hz2⟩:=info_parts Tryz.madd_info;have hr1:Reads wB wB.heap.size 1 (some ⟨w8.heap.size,0,none⟩) 1 [.slice A8 n8 c8]:=⟨rfl,fun _=>⟨_,rfl,AA.lt,fun j u hu=>by rw[Addr.add_mid,AA.cell (0+j)];simpa using hu⟩⟩;have AB:=AR.keep ((Turns.of_below (col:=col1) (fun _=>false) BB.o).keeps rfl);have colR1:col1 L.rg=k+1:=(A3.same L.rg H.st.tres.lt).trans H.st.tres.1;refine zw ?_;refine qnf wB (.tmp 37) (.tmp 43) _ _ rfl col1 (11+3*0) 23 i0 _ 1 24 Tryz.underlying72 hi0 hz0 hz1 hz2 rfl (.slice Al' nl cl') nl vs rfl hrow (.slice (some ⟨w8.heap.size,0,none⟩) 1 1) 1 [.slice A8 n8 c8] rfl (Src.reads wB Tryz.underlying72 hr1 (by simp[Value.oneCell']) zdc) (by simp only[maxLen];omega) zo ?_;intro v' wC col2 ap;obtain⟨A9,c9,rfl,-,-,-,-⟩:=ap.row.sl;have ap2:AppendedC wB col1 wC col2 (11+3*0) (.slice Al' nl cl') (.slice A9 (nl+1) c9) 23 1 t.leaves.length 1 vs [.slice A8 n8 c8]:=by rw[A1.o];exact ap
 obtain⟨N1,N2,N3⟩:=MB.leafAdd HK.o HS.o (t:=t) (bs:=be clk 8++(be ti 4++bd)) HT.o A0 hvl htx AB ap2;rw[show 0*75+5=5 from rfl]at N1 N2 N3;have eC:=qob (qai E5.o BwB.o) ap.turns (by rw[colR1];have:=HK.o;rcases this with rfl|rfl<;>rfl);have fC:=(MB.st.tres.keep (ap.turns.keeps (k:=k+1) (by have:=HK.o;rcases this with rfl|rfl<;>rfl))).frozen 5;have T9:=(A3.mono (q:=inP k) (fun i h=>by cases h)).trans N3;have AC:=TT.turns T9 (qr6 HK.o) H.base;obtain⟨AD,AE,AF,AG⟩:=zh4 N1 N2 T9 AC;clear N1 N2 N3 T9 AC MB hrow htx hvl hi0 hz0 hz1 hz2 hr1 AB colR1 ap ap2 A0;refine⟨fun _=>(HS9.o _).mpr eC,zput ?_⟩;iterate 2 (refine zrb ?_)
 refine zw ?_;go_simp;refine qbf ?_;clear HS9 F0 eC fC;obtain⟨W9,hW9⟩:=eqx (wC.setCell ⟨L.rg,5,none⟩ (.slice A9 (nl+1) c9));rw[←hW9]at AD AE AF AG ⊢;clear hW9;have sok:(s.setT 0 fun t=>{t with leaves:=t.leaves++[be clk 8++(be ti 4++bd)]}).Ok:=HS.setT (fun y hy o=>by
  rw[HT.o]at hy;injection hy with hy;subst hy;have h1:=A1.o;have h2:=o.leaves;have h3:=AN.o;exact {o with
   leaves:=by simp[h3];omega
   leafb:=fun b hb=>by
    rcases List.mem_append.1 hb with h|h
    · exact o.leafb b h
    obtain rfl:=List.mem_singleton.1 h;exact AK.o
   hds:=by have:=o.hds;simp;omega}) (fun _ y _ h1 h2=>⟨h1,h2⟩)
 have ht2:(s.setT 0 fun t=>{t with leaves:=t.leaves++[be clk 8++(be ti 4++bd)]}).tres[0]? =some {t with leaves:=t.leaves++[be clk 8++(be ti 4++bd)]}:=qo9 _ HT.o;have CP:=zh1 (qpn c _ L col2 k g _ 0 _ W9 HK.o HC.o sok AD.o ht2 (AI.live (by rw[AM.o];decide)).2 AG.o);clear sok ht2;go_wp2_with fail
 refine CP.o.mono ?_;rintro e W5 ⟨rfl,⟨css5,M5⟩,T5⟩;have D5:Did w col W5 col2 k g c css s ((s.setT 0 fun t=>{t with leaves:=t.leaves++[be clk 8++(be ti 4++bd)]}).pub c 0):=
  ⟨⟨L,css5,M5⟩,AE.keep fun i hi=>T5.keeps (by have:=HK.o;rcases this with rfl|rfl<;>simp<;>omega),AF.trans (T5.mono fun i hi=>(show i=k+1 by simpa using hi)▸(by unfold inP;simp))⟩
 have HD:=zh1 D5;clear D5 M5 T5;go_wp2
 go_end0
 exact⟨col2,rfl,HD.o⟩
def byR (c:Cfg)(id:Nat)(r:Req):Req:={r with tid:=id,cavs:=[],tag:=qjy (qmg c.seed) id}
theorem quu(root:List Nat)(id:Nat):qkd root (id,[],qjy root id)=true:=by
 unfold qkd;simp[qka,qkc]
theorem quv {R R':Req}(h1:∀f,qi0 R f=qi0 R' f)(h2:∀f,fldB R f=fldB R' f):∀(l:List Fld) (acc:List Nat),qi1 R l acc=qi1 R' l acc
 |[],acc=>rfl
 |f::l,acc=>by
  rw[qi1,qi1,h1,h2,quv h1 h2 l]
theorem quw(c:Cfg)(id:Nat)(r:Req):qi2 (byR c id r)=qi2 r:=by
 unfold qi2;show (match fieldsOf r.op with|none=>_|some l=>_)=_;cases fieldsOf r.op with
 |none=>rfl
 |some l=>
  show qi1 (byR c id r) l (be r.op.toNat 1)=qi1 r l (be r.op.toNat 1);exact quv (R:=byR c id r) (R':=r) (fun f=>rfl) (fun f=>rfl) l _
theorem qux{g:Gra}{x:Ten}(hb:(qi2 r).1=0)(hg:s.gras[id]? =some g)(hv:g.revoked=false)(he:s.clock<g.expires)(hx:s.tenant g.tenant=some x)(hk:qmm r.op r.leaf.length≤x.tok):
 qmn c s (byR c id r)=if qmk g.role r.op g.tenant (qml s r g.tenant) then 0 else 21:=by
 have h1:(qiw (byR c id r)).1=0:=by
  unfold qiw;rw[if_pos (by rw[quw];exact hb),if_pos (by rfl)]
 have h2:(byR c id r).tid=id:=rfl;unfold qmn;rw[if_neg (by rw[h1];decide),h2,hg];show (if (!qkd (qmg c.seed) (id,[],qjy (qmg c.seed) id))=true then _ else _)=_;rw[quu,if_neg zdc];rw[if_neg (by rw[hv];simp[qkl,byR];exact he)];show (if (!qmk g.role r.op g.tenant (qml s r g.tenant))=true then _ else _)=_;cases hd:qmk g.role r.op g.tenant (qml s r g.tenant) with
 |true=>
  rw[if_neg zdc,hx];show (if x.tok<qmm r.op r.leaf.length then 22 else 0)=_;rw[if_neg zo];rfl
 |false=>rfl
def quy (c:Cfg)(s:Sta)(r:Req):Sta:=
 let s2:=(qmz c s r).1.setX (((s.gras[r.tid]?).getD ⟨0,0,0,false⟩).tenant).toNat fun x=>{x with tok:=x.tok - qmm r.op r.leaf.length}
 (s2.setT 0 fun t=>{t with leaves:=t.leaves++[qn1 s2 r]}).pub c 0
def quz (c:Cfg)(s:Sta)(r:Req):Sta:=
 (qmz c s r).1.setX (((s.gras[r.tid]?).getD ⟨0,0,0,false⟩).tenant).toNat fun x=>{x with tok:=x.tok - qmm r.op r.leaf.length}
theorem qv0(hm:qmn c s r=0)(hw:(qmz c s r).2.why=0)(ha:ql8 r.op=true)(hl:(s.tres[0]?.getD Tre.zero).leaves.length<1024)(hst:stored s+64≤c.store)(h9:r.op≠9):doS c s r=(quy c s r,(qmz c s r).2):=by
 unfold doS;rw[if_neg (by rw[hm];decide)];obtain⟨s1,a,h⟩:∃s1 a,qmz c s r=(s1,a):=⟨_,_,rfl⟩;unfold quy;rw[h]at hw ⊢;dsimp only at hw ⊢;rw[if_neg (by rw[hw];decide),if_neg (by simp;intro _;omega),if_neg (by simp;intro _;omega),if_pos ha,if_neg h9]
theorem qv1(hm:qmn c s r=0)(hw:(qmz c s r).2.why=0)(ha:ql8 r.op=false):doS c s r=(quz c s r,(qmz c s r).2):=by
 unfold doS;rw[if_neg (by rw[hm];decide)];obtain⟨s1,a,h⟩:∃s1 a,qmz c s r=(s1,a):=⟨_,_,rfl⟩;unfold quz;rw[h]at hw ⊢;dsimp only at hw ⊢;rw[if_neg (by rw[hw];decide),ha,if_neg zm,if_neg zm,if_neg zdc]
theorem qv2(hm:qmn c s r=y)(h0:y≠0):doS c s r=(s,rWhy y):=by
 unfold doS;rw[if_pos (by rw[hm];exact h0),hm]
theorem qv3(hm:qmn c s r=0)(hw:(qmz c s r).2.why=(y:Int))(h0:y≠0):doS c s r=(s,rWhy y):=by
 unfold doS;rw[if_neg (by rw[hm];decide)];obtain⟨s1,a,h⟩:∃s1 a,qmz c s r=(s1,a):=⟨_,_,rfl⟩;rw[h]at hw ⊢;dsimp only at hw ⊢;rw[if_pos (by rw[hw];omega),hw,tBe]
def KC:Cfg:=⟨32,1,32768,[115]⟩
def qv4:Req:={qig with op:=12,tenant:=1,rate:=9,burst:=9,store:=999}
def qv5:Req:={qig with op:=6,tree:=1,tenant:=1,weight:=1}
def qv6:Req:={qig with op:=10,tenant:=1,role:=2,expires:=99}
def kAdd:Req:={qig with op:=1,tree:=1,leaf:=[97]}
def qv7:Req:={qig with op:=2,tree:=1}
def qv8:Req:={qig with op:=6,tree:=3,tenant:=1,weight:=1}
theorem KC_ok:KC.Ok:=⟨by decide,by decide,by decide,by decide,by decide,by decide,by decide⟩
def K1:Sta:=quy KC (newS KC) (byR KC 0 qv4)
def K2:Sta:=quy KC K1 (byR KC 0 qv5)
def K3:Sta:=quy KC K2 (byR KC 0 qv6)
def K4:Sta:=quz KC K3 (byR KC 1 kAdd)
def K5:Sta:=seqS KC K4
def K6:Sta:=quz KC K5 (byR KC 1 qv7)
theorem qv9:doS KC (newS KC) (byR KC 0 qv4)=(K1,qmo 1):=
 qv0 ((qux (g:=⟨0,4,18446744073709551615,false⟩) zdc rfl rfl zdc rfl zdc).trans (by rfl)) rfl rfl (by decide+kernel) (by decide+kernel) zdc
theorem qva:doS KC K1 (byR KC 0 qv5)=(K2,qmo 1):=
 qv0 ((qux (g:=⟨0,4,18446744073709551615,false⟩) zdc rfl rfl zdc rfl zdc).trans (by rfl)) rfl rfl (by decide+kernel) (by decide+kernel) zdc
theorem qvb:doS KC K2 (byR KC 0 qv6)=(K3,{qmo 1 with tok:=(1,[],qjy (qmg KC.seed) 1)}):=
 qv0 ((qux (g:=⟨0,4,18446744073709551615,false⟩) zdc rfl rfl zdc rfl zdc).trans (by rfl)) rfl rfl (by decide+kernel) (by decide+kernel) zdc
theorem qvc:doS KC K3 (byR KC 1 kAdd)=(K4,qmo 0):=
 qv1 ((qux (g:=⟨1,2,99,false⟩) zdc rfl rfl zdc rfl zdc).trans (by rfl)) rfl rfl
theorem qvd:(doS KC K5 (byR KC 1 qv7)).1=K6∧(doS KC K5 (byR KC 1 qv7)).2.hd.size=1:=by
 rw[qv1 ((qux (g:=⟨1,2,99,false⟩) zdc rfl rfl zdc rfl zdc).trans (by rfl)) rfl rfl];exact⟨rfl,rfl⟩
theorem qve:doS KC K6 (byR KC 1 qv8)=(K6,rWhy 21):=
 qv2 ((qux (g:=⟨1,2,99,false⟩) zdc rfl rfl zdc rfl zdc).trans (by rfl)) zdc
theorem qvf:∃t,K6.tres[0]? =some t∧t.leaves.length=3:=⟨_,rfl,rfl⟩
theorem qvg(c:Cfg)(s:Sta)(r:Req):0≤(qmz c s r).2.why:=by
 have add:∀t,0≤(qmq c s r t).2.why:=fun t=>by
  unfold qmq;repeat' split
  all_goals first|exact Int.natCast_nonneg _|exact Int.le_refl _
 have look:∀t,0≤(qmr c s r t).why:=fun t=>by
  unfold qmr;repeat' split
  all_goals first|exact Int.natCast_nonneg _|exact Int.le_refl _
 have create:0≤(qms c s r).2.why:=by
  unfold qms;repeat' split
  all_goals first|exact Int.natCast_nonneg _|exact Int.le_refl _
 have change:∀t,0≤(qmt c s r t).2.why:=fun t=>by
  unfold qmt;split
  · exact Int.natCast_nonneg _
  exact Int.le_refl _
 have weigh:0≤(qmu s r).2.why:=by
  unfold qmu;repeat' split
  all_goals first|exact Int.natCast_nonneg _|exact Int.le_refl _
 have rotate:∀t,0≤(qmv c s r t).2.why:=fun t=>by
  unfold qmv;split
  · exact Int.natCast_nonneg _
  exact Int.le_refl _
 have grant:0≤(qmw c s r).2.why:=by
  unfold qmw;repeat' split
  all_goals first|exact Int.natCast_nonneg _|exact Int.le_refl _
 have revoke:0≤(qmx s r).2.why:=by
  unfold qmx;repeat' split
  all_goals first|exact Int.natCast_nonneg _|exact Int.le_refl _
 have limit:0≤(qmy s r).2.why:=by
  unfold qmy;repeat' split
  all_goals first|exact Int.natCast_nonneg _|exact Int.le_refl _
 unfold qmz;split
 · exact create
 split
 · exact grant
 split
 · exact revoke
 split
 · exact limit
 split
 · exact Int.natCast_nonneg _
 split
 · exact add _
 split
 · exact change _
 split
 · exact weigh
 split
 · exact rotate _
 exact look _
theorem qvh(hm:qmn c s r=0)(hw:(qmz c s r).2.why=0)(ha:ql8 r.op=true)(hf:qur c s=y)(hy:y≠0):doS c s r=(s,rWhy y):=by
 unfold doS;rw[if_neg (by rw[hm];decide)];obtain⟨s1,a,h⟩:∃s1 a,qmz c s r=(s1,a):=⟨_,_,rfl⟩;rw[h]at hw ⊢;dsimp only at hw ⊢;rw[if_neg (by rw[hw];decide),ha];unfold qur at hf;by_cases h1:1024≤(s.tres[0]?.getD Tre.zero).leaves.length
 · rw[if_pos h1]at hf
   rw[if_pos (by simp;exact h1),hf]
 rw[if_neg h1]at hf;by_cases h2:c.store<stored s+64
 · rw[if_pos h2]at hf
   rw[if_neg (by simp;omega),if_pos (by simp;omega),hf]
 rw[if_neg h2]at hf;exact absurd hf.symm hy
theorem qvi(hf:qur c s=0):(s.tres[0]?.getD Tre.zero).leaves.length<1024∧stored s+64≤c.store:=by
 unfold qur at hf;by_cases h1:1024≤(s.tres[0]?.getD Tre.zero).leaves.length
 · rw[if_pos h1]at hf
   cases hf
 rw[if_neg h1]at hf;by_cases h2:c.store<stored s+64
 · rw[if_pos h2]at hf
   cases hf
 omega
theorem qvj(hm:qmn c s r=0)(hw:(qmz c s r).2.why=0)(ha:ql8 r.op=true)(hf:qur c s=0)(h9:r.op=9):doS c s r=(quy c s r,{(qmz c s r).2 with hd:=((quy c s r).tres[r.tree.toNat]?.getD Tre.zero).hd}):=by
 obtain⟨hl,hst⟩:=qvi hf;unfold doS;rw[if_neg (by rw[hm];decide)];obtain⟨s1,a,h⟩:∃s1 a,qmz c s r=(s1,a):=⟨_,_,rfl⟩;unfold quy;rw[h]at hw ⊢;dsimp only at hw ⊢;rw[if_neg (by rw[hw];decide),if_neg (by simp;intro _;omega),if_neg (by simp;intro _;omega),if_pos ha,if_pos h9]
section
variable {w w' : World} {col col' : Col} {p : Nat → Bool}
theorem qvk{base:Nat}(h:w.ownsRow base e size v n xs)(h0:∀g,v.ownBlock=some g→col g=0)(ht:Turns p w col w' col')(hp:p 0=false):w'.ownsRow base e size v n xs∧∀g,v.ownBlock=some g→col' g=0:=by
 refine⟨⟨h.1,?_⟩,fun g hg=>?_⟩
 · rcases h.2 with h1|⟨g,cap,cur,rfl,hg,hh,rest⟩
   · exact .inl h1
   have hl:Blk w g e cur:=hh;exact .inr ⟨g,cap,cur,rfl,hg,(ht.block g hl.lt (by rw[h0 g rfl];exact hp)).trans hh,rest⟩
 exact(ht.same g (World.ownsRow.lt h g hg).2).trans (h0 g hg)
theorem RspV.turns{base:Nat}{A:Rsp}(h:RspV w col base v A)(ht:Turns p w col w' col')(hp:p 0=false):RspV w' col' base v A:=by
 obtain⟨bv,hv,cav,e,h1,h2,h3,h4,h5,h6⟩:=h;obtain⟨a1,b1⟩:=qvk h1 h4 ht hp;obtain⟨a2,b2⟩:=qvk h2.2 h5 ht hp;obtain⟨a3,b3⟩:=qvk h3 h6 ht hp;exact⟨bv,hv,cav,e,a1,⟨h2.1,a2⟩,a3,b1,b2,b3⟩
theorem RspV.call{base:Nat}{A:Rsp}(h:RspV w col base v A)(hb:Zb w w'):RspV w' col base v A:=h.turns (Turns.of_below (fun _=>false) hb) rfl
theorem RspV.grown{base:Nat}{A:Rsp}{cs:Array Value}(h:RspV w col base v A)(hz:Blk w G 57 cs)(hg:w.grownBy w' (some G)):RspV w' col base v A:=by
 obtain⟨bv,hv,cav,e,h1,h2,h3,h4,h5,h6⟩:=h;exact⟨bv,hv,cav,e,tB3 h1 hg (.inr (qa3 h1 hz zdc)),⟨h2.1,tB3 h2.2 hg (.inr (qa3 h2.2 hz zdc))⟩,tB3 h3 hg (.inr (qa3 h3 hz zdc)),h4,h5,h6⟩
theorem RspV.base{base:Nat}{A:Rsp}(h:RspV w col base v A)(hb:base'≤base):RspV w col base' v A:=by
 obtain⟨bv,hv,cav,e,h1,h2,h3,h4,h5,h6⟩:=h;exact⟨bv,hv,cav,e,qde h1 hb,⟨h2.1,qde h2.2 hb⟩,qde h3 hb,h4,h5,h6⟩
theorem Turns.only0(h:w.grownBy w' (some G))(h0:col G=0):Turns (· ==0) w col w' col:=
 Turns.of_grown h (fun g e=>by injection e with e;subst e;simp[h0]) (fun _ _=>rfl)
theorem Mdl.grown0(h:Mdl w col k g c s L css)(hk:Kind k)(hg:w.grownBy w' (some G))(h0:col G=0):Mdl w' col k g c s L css:=
 h.keep (Turns.only0 hg h0) rfl rfl (by rcases hk with rfl|rfl<;>rfl) (by rcases hk with rfl|rfl<;>rfl) (by rcases hk with rfl|rfl<;>rfl) (fun i hi=>by simp;omega) (h.fin.mono hg.size)
theorem StAt.grown0(h:StAt tt rt gt w col k L css s)(hk:Kind k)(hg:w.grownBy w' (some G))(h0:col G=0):StAt tt rt gt w' col k L css s:=by
 have T:=Turns.only0 hg h0;exact h.keep (T.keeps (by rcases hk with rfl|rfl<;>rfl)) (T.keeps (by rcases hk with rfl|rfl<;>rfl)) (T.keeps (by rcases hk with rfl|rfl<;>rfl)) fun i hi=>T.keeps (by simp;omega)
theorem StAt.call(h:StAt tt rt gt w col k L css s)(hb:Zb w w'):StAt tt rt gt w' col k L css s:=
 h.keep ((Turns.of_below (fun _=>false) hb).keeps rfl) ((Turns.of_below (fun _=>false) hb).keeps rfl) ((Turns.of_below (fun _=>false) hb).keeps rfl) fun i _=>(Turns.of_below (fun _=>false) hb).keeps rfl
theorem Rest.newer(h:Rest w col W colW)(hg:W.grownBy W' (some G))(hG:w.heap.size≤G):Rest w col W' colW:=
 ⟨hg.os.trans h.os,hg.tape.trans h.tape,hg.output.trans h.output,tB1 h.size hg.size,fun b hb hc=>by
  obtain⟨h1,h2⟩:=h.block b hb hc;exact⟨(hg.block b (tB0 hb h.size) (by intro e;injection e with e;omega)).trans h1,h2⟩⟩
theorem Rest.step(h:Rest w col W colW)(ht:Turns p W colW W' colW')(hp:p 0=false):Rest w col W' colW':=h.trans (Rest.of_turns ht hp)
end
theorem qvl{l:List Tre}(h:TrsAt w col css l):∀u∈css.flatten,u.oneCell'=true:=by
 intro u hu;obtain⟨cs,hcs,hu⟩:=List.mem_flatten.1 hu;obtain⟨i,hi⟩:=List.mem_iff_getElem?.1 hcs;have hlt:i<l.length:=by
  obtain⟨h1,_⟩:=tA8 hi;rw[←h.1];exact h1
 obtain⟨cs',h1,vd,vl,vq,e,r1,r2,r3⟩:=h.2 i _ (tA7 hlt);rw[hi]at h1;injection h1 with h1;subst h1;obtain⟨A1,c1,e1,-⟩:=r1.sl;obtain⟨vs2,A2,c2,e2,-⟩:=r2.sl;obtain⟨vs3,A3,c3,e3,-⟩:=r3.sl;subst e e1 e2 e3;exact qqp _ _ _ _ rfl rfl rfl u hu
theorem qvm(l:List Ten):∀u∈l.flatMap tenv,u.oneCell'=true:=by
 intro u hu;obtain⟨x,_,hx⟩:=List.mem_flatMap.1 hu;unfold tenv at hx;simp only[List.mem_cons,List.not_mem_nil,or_false]at hx;rcases hx with rfl|rfl|rfl|rfl|rfl|rfl<;>rfl
theorem qvn(l:List Gra):∀u∈l.flatMap grav,u.oneCell'=true:=by
 intro u hu;obtain⟨x,_,hx⟩:=List.mem_flatMap.1 hu;unfold grav at hx;simp only[List.mem_cons,List.not_mem_nil,or_false]at hx;rcases hx with rfl|rfl|rfl|rfl<;>rfl
theorem qvo(s:Sta)(L:Loc):(stav s L).length=6:=rfl
theorem qvp(s:Sta)(L:Loc):∀u∈stav s L,u.oneCell'=true:=by
 intro u hu;unfold stav at hu;simp only[List.mem_cons,List.not_mem_nil,or_false]at hu;rcases hu with rfl|rfl|rfl|rfl|rfl|rfl<;>rfl
theorem qvq(A:Rsp)(h:Hd)(bv hv cav:Value)(h1:A.hd.Ok)(h2:h.Ok):over (rspv A bv hv cav) 4 (hdv h)=rspv {A with hd:=h} bv hv cav:=by
 unfold over rspv;have l1:=qnm h1;have l2:=qnm h2;rw[l2];simp only[List.take_succ_cons,List.take_zero,List.drop_succ_cons,List.cons_append,List.nil_append];rw[show 4+64=(hdv A.hd).length by rw[l1],List.drop_left]
theorem qvr{l:List Value}(h:l.toArray[i]? =some u):l.toArray.setIfInBounds i u=l.toArray:=by
 rw[List.setIfInBounds_toArray];congr 1
 rw[tA3]at h;obtain⟨hi,e⟩:=tA8 h;rw[←e,List.set_getElem_self]
theorem Mdl.there4(h:Mdl w col k g c s L css):w.there g 4 6:=fun j hj=>
 ⟨by rw[h.blk.cell,Array.getElem?_eq_getElem (by simp[mdlv];omega)];simp,h.blk.frozen _⟩
theorem Tabs.rest(h:Tabs w)(hr:Rest w col w' col')(hb:3≤w.heap.size∧∀b,b<3→col b=0):Tabs w':=h.below (hr.below hb.2 hb.1).1 (tA4 _)
theorem Asked.rest{cc:Nat}(h:Asked w col R Ac cc Al cl)(hr:Rest w col w' col'):Asked w' col' R Ac cc Al cl:=
 ⟨h.good,hr.reads h.leaf h.leaf0,h.leafc,h.leafm,hr.reads h.cavs h.cavs0,h.cavc,h.cavm,
  fun hn ad e=>by
   obtain⟨ad',e',hb,_⟩:=h.leaf.2 hn;rw[e]at e';injection e' with e';subst e';exact(hr.block _ hb (h.leaf0 hn ad e)).2,
  fun hn ad e=>by
   obtain⟨ad',e',hb,_⟩:=h.cavs.2 hn;rw[e]at e';injection e' with e';subst e';exact(hr.block _ hb (h.cavs0 hn ad e)).2⟩
theorem RspV.cell0{base:Nat}{A:Rsp}(h:RspV W col base (.agg X.toArray) A):X.toArray[0]? =some (.int .i64 A.why):=by
 obtain⟨bv,hv,cav,e,-⟩:=h;injection e with e;rw[e];rfl
theorem RspV.head{base:Nat}{A:Rsp}{h:Hd}(hr:RspV W col base (.agg X.toArray) A)(h1:A.hd.Ok)(h2:h.Ok):RspV W col base (.agg (over X 4 (hdv h)).toArray) {A with hd:=h}:=by
 obtain⟨bv,hv,cav,e,h3,h4,h5,h6,h7,h8⟩:=hr;injection e with e;have e':X=rspv A bv hv cav:=by simpa using e
 rw[e',qvq A h bv hv cav h1 h2];exact⟨bv,hv,cav,rfl,h3,h4,h5,h6,h7,h8⟩
theorem qvs(h9:r.op=9)(hw:(qmz c s r).2.why=0):∃t,s.tree r.tree=some t:=by
 cases h:s.tree r.tree with
 |some t=>exact⟨t,rfl⟩
 |none=>
  unfold qmz at hw;rw[h,if_neg zo,if_neg zo,if_neg zo,if_neg zo]at hw;have hw':(23:Int)=0:=hw;exact absurd hw' zdc
theorem qvt(c:Cfg)(s:Sta)(L:Loc)(col:Col)(g:Nat)(css:List (List Value))(R:Req)(Ac:Option Addr)(cc:Nat)(Al:Option Addr)(cl:Nat)(w:World)(hc:c.Ok)(hs:s.Ok)(h:Mdl w col 2 g c s L css)
 (hr:Asked w col R Ac cc Al cl)(hT:Tabs w)(hE:w.cell? ⟨0,0,none⟩=some (.iface 327 (.agg #[.pointer (some ⟨3,81,none⟩)]))):
 Zc 17 #[.pointer (some ⟨g,0,none⟩),.agg (reqv R (.slice Ac R.cavs.length cc) (.slice Al R.leaf.length cl)).toArray] w fun e w'=>∃v col' L' css',e=.returned v∧RspV w' col' w.heap.size v (doS c s R).2∧Mdl w' col' 2 g c (doS c s R).1 L' css'∧Rest w col w' col':=by
 have hk:Kind 2:=.inl rfl;have CM:=fun(w':World)(hb:Zb w w')=>que c s L col 2 g css R Ac cc Al cl w' hk hc hs (h.call hb) (hr.call hb) (hT.below hb hT.size) (qai hE hb)
 have CD:=fun (w':World) (col':Col) (L6:Loc) (hM:Mdl w' col' 6 g c s L6 css) (hA:Asked w' col' R Ac cc Al cl) (hT':Tabs w') (he:(qiw R).1=0)=>qup c s L6 col' 6 g css R Ac cc Al cl w' (.inr rfl) hc hs hM hA hT' he
 have CN:=fun (w':World) (col':Col) (s2:Sta) (L6:Loc) (css2:List (List Value)) (hs2:s2.Ok) (hM:Mdl w' col' 6 g c s2 L6 css2) (hA:Asked w' col' R Ac cc Al cl) (hT':Tabs w') (ha:ql8 R.op=true) (hl:∀t,s2.tres[0]? =some t→t.leaves.length<1024)=>qut c s2 L6 col' 6 g css2 R Ac cc Al cl w' (.inr rfl) hc hs2 hM hA hT' ha hl
 obtain⟨Q,hQ,rlen,rest,W0,hW0,q0,z0,b0⟩:=qr9 R Ac cc Al cl w hr.good.tag;rw[hQ];have hG0:=h.fin.none (b:=w.heap.size+1) zo;have D0:=Did.same (css:=css) h b0;obtain⟨H,DC,Q0,Z0,B0,DD,DX,HK⟩:=zh8 h hW0 q0 z0 b0 hG0 D0 hk;obtain⟨HS,HR,RL,BK,HQ⟩:=zh5 hs hr rlen rest hQ;clear h hW0 q0 z0 b0 hG0 D0 hk hs hr rlen rest hQ;rw[HQ.o]at CM CD CN;obtain⟨DE,DF,DG,HC,TT⟩:=zh5 CM CD CN hc hT;have B4:=DD;obtain⟨DH,BL,B5⟩:=zh3 (qap Q0.o 0 Q zjq) (zI 34 RL.o) (show Q.toArray[0]? =some (.int .i64 R.op) by rw[tA3,←HQ.o];rfl);obtain⟨wy,hwy⟩:=xeq (qmn c s R);have AD:=zh1 hwy;clear hc hT hE hwy CM CD CN;go_enter Tryz.func17,Tryz.ntmps17
 go_upto_region 1 with(fail)
 rw[←DC.o];go_wp2_with (refine zld DH.o zu34 BL.o ?_)
 refine(DE.o W0 B0.o).mono ?_;rintro e w1 ⟨y,cost,rfl,hy,b1⟩;rw[AD.o]at hy ⊢;obtain⟨tn,htn⟩:=xeq y.tenant;obtain⟨X,hX⟩:=xeq (grav y);rw[show (#[.int .i64 y.tenant,.int .i64 y.role,.int .u64 (y.expires:Int),.bool y.revoked]:Array Value)=X.toArray by rw[←hX];rfl];have lX:X.length=4:=by rw[←hX];rfl
 have oX:∀u∈X,u.oneCell'=true:=by
  rw[←hX];intro u hu;unfold grav at hu;simp only[List.mem_cons,List.not_mem_nil,or_false]at hu;rcases hu with rfl|rfl|rfl|rfl<;>rfl
 obtain⟨X0,LX,OX,HY,B6,DI,B1,GN⟩:=zh8 (show X.toArray[0]? =some (.int .i64 tn) by rw[←hX,←htn];rfl) lX oX hy htn (zI 66 lX) b1 (Blk.new w1 66 #[.int .i64 0,.int .i64 0,.int .u64 0,.bool false]);clear hX lX oX hy htn b1;go_upto_region 2 with(refine zst GN.o DI.o (by simp[LX.o]) OX.o ?_)
 obtain⟨W1,hW1⟩:=eqx ((w1.alloc (.cells #[.int .i64 0,.int .i64 0,.int .u64 0,.bool false] 66)).setRow w1.heap.size X.toArray);rw[←hW1];obtain⟨G,hG⟩:=eqx w1.heap.size;rw[←hG];have g1:Blk W1 G 66 X.toArray:=by rw[hW1,hG];exact(Blk.new _ _ _).setRow _
 have b01:Zb W0 W1:=by rw[hW1];exact below_setRow (B1.alloc B1.size _) B1.size _
 obtain⟨G1,DY,AE,Z1,Q1,GS⟩:=zh6 g1 b01 (B0.trans (b01.mono B0.size)) (Z0.below b01 Z0.lt) (Q0.below b01 Q0.lt) (show W0.heap.size≤G by rw[hG];exact B1.size);clear hW1 hG g1 b01;by_cases hw0:wy=0
 ·
  subst hw0;obtain⟨hyg,rfl⟩:=HY.o rfl;have CH:=zh1 hyg;have henc:=qtq AD.o;have CI:=zh1 henc;have hyo:=HS.gra hyg;obtain⟨tn,rfl⟩:∃m:Nat,tn=m:=⟨tn.toNat,by have:=hyo.tenant;rw[B6.o]at this;omega⟩;have tn16:tn<16:=by have:=hyo.tenant;rw[B6.o]at this;omega
  obtain⟨cost,hcost⟩:=xeq (qmm R.op R.leaf.length);have costb:=qu9 R.op R.leaf.length;rw[hcost]at costb ⊢;obtain⟨CJ,AK,CK⟩:=zh3 hcost tn16 costb;obtain⟨SV,hSV⟩:=xeq (stav s L);have lSV:SV.length=6:=by rw[←hSV];rfl
  have oSV:∀u∈SV,u.oneCell'=true:=by rw[←hSV];exact qvp s L
  obtain⟨S3,S4,S5,SR,BM,BN,BO,AH⟩:=zh8 (show SV.toArray[3]? =some (.slice (some ⟨L.tg,0,none⟩) 16 L.tc) by rw[←hSV];rfl) (show SV.toArray[4]? =some (.slice (some ⟨L.rg,0,none⟩) 16 L.rc) by rw[←hSV];rfl) (show SV.toArray[5]? =some (.slice (some ⟨L.gg,0,none⟩) s.gras.length L.gc) by rw[←hSV];rfl) (show W1.rangeAt g 4 SV by rw[←hSV];exact(H.call AE.o).stRange) hSV lSV oSV (zI 49 lSV);have SN:=zh1 (Blk.new W1 49 #[.int .u64 0,.int .u32 0,.int .i64 0,.slice none 0 0,.slice none 0 0,.slice none 0 0]);clear hyg henc hyo tn16 hcost costb hSV lSV oSV;go_upto_region 5 with(first
   |(refine zld SR.o zu49 AH.o ?_)
   |(refine zst SN.o AH.o (by simp[BN.o]) BO.o ?_))
  obtain⟨W2,hW2⟩:=eqx ((W1.alloc (.cells #[.int .u64 0,.int .u32 0,.int .i64 0,.slice none 0 0,.slice none 0 0,.slice none 0 0] 49)).setRow W1.heap.size SV.toArray);rw[←hW2];obtain⟨B8,hB8⟩:=eqx W1.heap.size;rw[←hB8];have s2:Blk W2 B8 49 SV.toArray:=by rw[hW2,hB8];exact(Blk.new _ _ _).setRow _
  have b12:Zb W1 W2:=by rw[hW2];exact below_setRow ((tA5 _ _).alloc (tA4 _) _) (tA4 _) _
  obtain⟨A3,DZ,CL,Z2,Q2,G2,BP⟩:=zh7 s2 b12 (AE.trans (b12.mono AE.size)) (Z1.below b12 Z1.lt) (Q1.below b12 Q1.lt) (G1.below b12 G1.lt) (show W1.heap.size≤B8 by omega);clear hW2 hB8 s2 b12;obtain⟨S,HS9⟩:=zS fun w'=>Blk w' B8 49 SV.toArray
  refine zrs S 23 (zq 0 5 ((6,false)::(7,false)::(9,false)::(10,false)::(5,true)::(8,true)::(11,true)::zq 12 3 ((15,true)::zq 16 3 ((19,true)::zq 20 3 [(23,true)])))) ((HS9.o _).mpr (A3.o)) ?_;obtain⟨F3,F4,F5⟩:=zh3 (fun(w':World)(h:S w')=>(((HS9.o w').mp h).cell 3).trans S3.o) (fun(w':World)(h:S w')=>(((HS9.o w').mp h).cell 4).trans S4.o) (fun(w':World)(h:S w')=>(((HS9.o w').mp h).cell 5).trans S5.o);iterate 9 (refine zre rfl rfl (fun w1 hS=>by have g3:=F3.o w1 hS;have g4:=F4.o w1 hS;have g5:=F5.o w1 hS;clear hS;go_simp;try rfl) ?_)
  obtain⟨Wd,hWd,BD⟩:=zdr W2;rw[←hWd];clear hWd;have CO:=zh1 (CL.trans (BD.mono CL.size));have HD:=zh1 (H.call CO.o);have gl:=HS.grasn;refine zw ?_;go_simp;refine(qrk (some ⟨L.tg,0,none⟩) 16 L.tc (s.tens.flatMap tenv) Wd HD.st.tens.reads zdc (qvm _)).mono ?_;rintro e wa ⟨va,rfl,oa,ba⟩;obtain⟨BA,OA⟩:=zh2 ba oa;clear oa ba;refine⟨(HS9.o _).mpr (A3.below (BD.trans (BA.mono BD.size)) A3.lt),zput ?_⟩;refine zw ?_;go_simp;refine(qrl (some ⟨L.rg,0,none⟩) 16 L.rc css.flatten wa ((HD.call BA.o).st.tres.reads) zdc (qvl H.st.trs)).mono ?_;rintro e wb ⟨vb,rfl,ob,bb⟩;obtain⟨BB,OB,AN⟩:=zh3 bb ob (BA.trans (bb.mono BA.size));clear ob bb;refine⟨(HS9.o _).mpr (A3.below (BD.trans (AN.mono BD.size)) A3.lt),zput ?_⟩;refine zw ?_;go_simp;refine(qrm (some ⟨L.gg,0,none⟩) s.gras.length L.gc (s.gras.flatMap grav) wb ((HD.call AN.o).st.gras.reads) zo (qvn _)).mono ?_;rintro e wc ⟨vc,rfl,oc,bc⟩;obtain⟨BC,OC,B7⟩:=zh3 bc oc (AN.trans (bc.mono AN.size));clear oc bc;refine⟨(HS9.o _).mpr (A3.below (BD.trans (B7.mono BD.size)) A3.lt),zput ?_⟩;obtain⟨L6,col4,e1,e2,e3,M4,CP,T4⟩:=HD.fork HS.o B7.o (qr8 (qr8 OA.o BB.o) BC.o) (qde (qr8 OB.o BC.o) BA.size) (qde OC.o AN.size);subst e1 e2 e3;have AL:=HD.call B7.o;have c7:=AL.c7;have c8:=AL.c8;have c9:=AL.c9;have f7:=AL.blk.frozen 7;obtain⟨CR,CS,BQ,CT,AA,A8⟩:=zh6 (A3.below (BD.trans (B7.mono BD.size)) A3.lt) AL.blk (show B8≠g by have h1:=H.blk.lt;have h2:=BP.o;have h3:=AE.size;omega) M4 CP T4;clear M4 CP T4 AL;iterate 3 (refine zre rfl rfl (fun w1 hS=>by clear hS;go_simp;try rfl) ?_)
  refine zw ?_;go_simp;refine⟨(HS9.o _).mpr (CR.far (p:=⟨g,7,none⟩) BQ.o _),zput ?_⟩;iterate 3 (refine zre rfl rfl (fun w1 hS=>by clear hS;go_simp;try rfl) ?_)
  refine zw ?_;have f8:=CS.frozen 8;have f9:=CS.frozen 9;go_simp;refine⟨(HS9.o _).mpr ((CR.far (p:=⟨g,7,none⟩) BQ.o _).far (p:=⟨g,8,none⟩) BQ.o _),zput ?_⟩;iterate 3 (refine zre rfl rfl (fun w1 hS=>by clear hS;go_simp;try rfl) ?_)
  refine zw ?_;go_simp;refine zP ?_;refine qbf ?_;clear HS9 F3 F4 F5 c7 c8 c9 f7 f8 f9 gl;obtain⟨W4,hW4⟩:=eqx (((wc.setCell ⟨g,7,none⟩ (.slice (some ⟨L6.tg,0,none⟩) 16 L6.tc)).setCell ⟨g,8,none⟩ (.slice (some ⟨L6.rg,0,none⟩) 16 L6.rc)).setCell ⟨g,9,none⟩ (.slice (some ⟨L6.gg,0,none⟩) s.gras.length L6.gc));rw[←hW4]at CT AA A8 ⊢;clear hW4;have hcz:∀b,w.heap.size≤b→col b=0:=fun b hb=>by
   by_cases e:col b=0
   · exact e
   have:=H.fin b e;omega
  have q4:=Q2.below BD.o Q2.lt;have g4:=G2.below BD.o G2.lt;have s4:=A3.below BD.o A3.lt;have z4:=Z2.below BD.o Z2.lt;have cQ:col4 w.heap.size=0:=(A8.same _ q4.lt).trans (hcz _ (tA4 _));have cG:col4 G=0:=(A8.same _ g4.lt).trans (hcz _ (by have:=GS.o;have:=B0.size;omega));have cB:col4 B8=0:=(A8.same _ s4.lt).trans (hcz _ (by have:=BP.o;have:=AE.size;omega));have cZ:col4 (w.heap.size+1)=0:=(A8.same _ z4.lt).trans (hcz _ zo);obtain⟨Q4,G4,BR,Z4,R4,CQ,CG,CB⟩:=zh8 (show Blk W4 w.heap.size 34 Q.toArray from(A8.block _ q4.lt (by rw[hcz _ (tA4 _)];rfl)).trans q4) (show Blk W4 G 66 X.toArray from(A8.block _ g4.lt (by rw[hcz _ (by have:=GS.o;have:=B0.size;omega)];rfl)).trans g4) (show Blk W4 B8 49 SV.toArray from(A8.block _ s4.lt (by rw[hcz _ (by have:=BP.o;have:=AE.size;omega)];rfl)).trans s4) (show Blk W4 (w.heap.size+1) 57 Tryz.zeroCells57 from(A8.block _ z4.lt (by rw[hcz _ zo];rfl)).trans z4) ((Rest.of_below (col:=col) CO.o).step A8.o rfl) cQ cG cB;have CZ:=zh1 cZ;clear q4 g4 s4 z4 cQ cG cB cZ hcz;have BS:=zh1 (qap Q4.o 0 Q zjq);go_wp2_with (refine zld BS.o zu34 BL.o ?_)
  refine(DF.o W4 col4 L6 CT.o (HR.rest R4.o) (TT.rest R4.o H.base) CI.o).mono ?_;rintro e w5 ⟨v5,col5,rfl,r5,d5⟩;have hsh:=quj (c:=c) (R:=R) HS.o;have sok1:=qtn (c:=c) HS.o HR.good (qta CI.o);have hnn:=qvg c s R;have ws:W4.heap.size≤w5.heap.size:=d5.turns.size;obtain⟨s1,hs1⟩:=xeq ((qmz c s R).1);obtain⟨a,haa⟩:=xeq ((qmz c s R).2);rw[hs1]at d5 sok1;rw[haa]at r5 hsh hnn;obtain⟨X5,rfl,lX5,oX5⟩:=r5.cells hsh;obtain⟨aw,haw⟩:∃n:Nat,a.why=n:=⟨a.why.toNat,by omega⟩;have x50:=r5.cell0;rw[haw]at x50;obtain⟨BU,AO,CU,A2,CV,A9,BV,AP⟩:=zh8 hs1 haa hsh sok1 haw lX5 oX5 x50;obtain⟨DJ,BE,N5,D5,R5,Q5,G5,BW⟩:=zh8 (zI 57 lX5) qqg (Blk.new w5 57 Tryz.zeroCells57) d5 r5 (show Blk w5 w.heap.size 34 Q.toArray from(d5.turns.block _ Q4.lt (by rw[CQ.o];rfl)).trans Q4.o) (show Blk w5 G 66 X.toArray from(d5.turns.block _ G4.lt (by rw[CG.o];rfl)).trans G4.o) (show Blk w5 B8 49 SV.toArray from(d5.turns.block _ BR.lt (by rw[CB.o];rfl)).trans BR.o);obtain⟨Z5,E0,E1,AF,BX,BY⟩:=zh6 (show Blk w5 (w.heap.size+1) 57 Tryz.zeroCells57 from(d5.turns.block _ Z4.lt (by rw[CZ.o];rfl)).trans Z4.o) ((d5.turns.same _ G4.lt).trans CG.o) ((d5.turns.same _ BR.lt).trans CB.o) ((d5.turns.same _ Z4.lt).trans CZ.o) ((d5.turns.same _ Q4.lt).trans CQ.o) (R4.step d5.turns rfl);have hw5:w.heap.size+1<w5.heap.size:=Z5.lt;clear hsh sok1 hnn hs1 haa haw lX5 oX5 x50 d5 r5;go_upto_region 7 with(refine zst N5.o DJ.o (by simp[A9.o,BE.o]) BV.o ?_)
  obtain⟨W6,hW6⟩:=eqx ((w5.alloc (.cells Tryz.zeroCells57 57)).setRow w5.heap.size X5.toArray);rw[←hW6];obtain⟨B9,hB9⟩:=eqx w5.heap.size;rw[←hB9];have n6:Blk W6 B9 57 X5.toArray:=by rw[hW6,hB9];exact(Blk.new _ _ _).setRow _
  have b56:Zb w5 W6:=by rw[hW6];exact below_setRow ((tA5 _ _).alloc (tA4 _) _) (tA4 _) _
  obtain⟨E2,N6,CW⟩:=zh3 b56 n6 (show w5.heap.size≤B9 by omega);have AB:=zh1 (show col5 B9=0 by
   by_cases e:col5 B9=0
   · exact e
   obtain⟨Lx,cx,mx⟩:=D5.mdl;have:=mx.fin B9 e;omega)
  obtain⟨Q6,G6,BF,Z6,D6,CX,BZ,C0⟩:=zh8 (Q5.below b56 Q5.lt) (G5.below b56 G5.lt) (BW.below b56 BW.lt) (Z5.below b56 Z5.lt) (D5.call b56) (R5.call b56) (BY.trans (Rest.of_below b56)) (show StAt 92 74 66 W6 col5 2 L css s from StAt.call ⟨AA.tens.keep (D5.turns.keeps rfl),AA.tres.keep (D5.turns.keeps rfl),AA.gras.keep (D5.turns.keeps rfl),D5.old⟩ b56);obtain⟨L1,css1,m6⟩:=D6.mdl;have M6:=zh1 m6;have B4:=AF;obtain⟨CY,DK,DL,DM,E3⟩:=zh5 (show B9≠w.heap.size+1 by omega) (show B9≠B8 by have:=BW.lt;omega) (show B9≠G by have:=G5.lt;omega) (show B9≠w.heap.size by omega) (show B9≠g by intro e;have h1:=AB.o;rw[e,m6.own]at h1;cases h1);clear hW6 hB9 n6 b56 m6;have n0:=(N6.cell 0).trans AP.o;by_cases ha0:aw=0
  ·
   subst ha0;have hw:=CV.o;have hwhy:(qmz c s R).2.why=0:=by rw[AO.o];exact hw
   have A4:=zh1 hwhy;have kop:=(Q6.cell 0).trans B5.o;clear hw hwhy;go_upto_region 7 with(fail)
   go_wp2_with fail
   refine zca (ql9 R.op W6) ?_;cases hadm:ql8 R.op with
   |false=>
    have A0:=zh1 hadm;clear hadm kop;have N7:=N6;have G7:=G6;have Q7:=Q6;have Z7:=Z6;have M7:=M6;have AM:=BZ;have C1:=CX;have sokx:=A2.o;obtain⟨x1,hx1⟩:∃x,s1.tens[tn]? =some x:=⟨_,tA7 (by rw[sokx.tensn];exact AK.o)⟩;obtain⟨tk,htk⟩:=xeq x1.tok;have tkb:tk<4294967296:=by have h1:=(sokx.ten hx1).tok;have h2:=(sokx.ten hx1).burst;omega
    have cob:=CK.o;obtain⟨AQ,AR⟩:=zh2 hx1 htk;have q16:(tn:Int)<16:=by have:=AK.o;omega
    have q16n:=AK.o;have q0:(0:Int)≤tn:=zo;clear sokx hx1 htk;go_upto_region 12 with(fail)
    obtain⟨S,HS9⟩:=zS fun w'=>Zb (W6) w'
    refine zrs S 10 (zq 0 10 []) ((HS9.o _).mpr ((tA5 _ _).drew)) ?_;obtain⟨F7,F0⟩:=zh2 (fun(w':World)(h:S w')=>(M7.call ((HS9.o w').mp h)).c7) (fun(w':World)(h:S w')=>((G7.below ((HS9.o w').mp h) G7.lt).cell 0).trans X0.o);iterate 10 (refine zre rfl rfl (fun w1 hS=>by have g7:=F7.o w1 hS;have g0:=F0.o w1 hS;clear hS;go_simp;try rfl) ?_)
    refine qbf ?_;clear HS9 F7 F0;obtain⟨W8,hW8⟩:=eqx ((W6).drew);have AC:=zh1 (show Zb (W6) W8 by rw[hW8];exact(tA5 _ _).drew);rw[←hW8];clear hW8;have C3:=zh1 (fun (w':World) (hb:Zb (W6) w')=>(show w'.cell? ⟨L1.tg,tn*6+3,none⟩=some (.int .u32 (tk:Int)) from(M7.call hb).st.tens.cell ((qno AQ.o zo).trans (by rw[←AR.o];rfl))));go_upto_region 13 with(fail)
    obtain⟨S,HS9⟩:=zS fun w'=>Zb W8 w'
    refine zrs S 13 (zq 0 13 [(13,true)]) ((HS9.o _).mpr ((tA5 _ _).drew)) ?_;have F3:=zh1 (fun(w':World)(h:S w')=>C3.o w' (AC.trans (((HS9.o w').mp h).mono AC.size)));have wv:(tk:Int) - min (cost:Int) (tk:Int)=((tk - cost:Nat):Int):=zo;obtain⟨v,hv⟩:=xeq (tk - cost);rw[hv]at wv;have wv2:IntKind.u32.wrap ((tk:Int) - min (cost:Int) (tk:Int))=(v:Int):=by rw[tBf _ zo];exact wv
    have wv3:IntKind.u32.wrap (v:Int)=(v:Int):=tBf _ zo;have HV:=zh1 hv;clear hv;iterate 13 (refine zre rfl rfl (fun w1 hS=>by have g3:=F3.o w1 hS;clear hS;go_simp;try rfl) ?_)
    obtain⟨Wt,hWt⟩:=eqx W8.drew;have B7t:=zh1 (show Zb (W6) Wt by rw[hWt];exact AC.trans (((tA5 _ _).drew).mono AC.size));rw[←hWt];clear hWt;have c3:=C3.o Wt B7t.o;have Mt:=M7.call B7t.o;have f3:=Mt.st.tens.frozen (tn*6+3);have m9:=Mt.tenOver (.inr rfl) A2.o AQ.o (j:=3) (cs:=[.int .u32 (v:Int)]) (fun x=>{x with tok:=x.tok - cost}) zm (by rw[←HV.o,←AR.o];simp[over,tenv]);rw[show Wt.setCells L1.tg (tn*6+3) [.int .u32 (v:Int)]=Wt.setCell ⟨L1.tg,tn*6+3,none⟩ (.int .u32 (v:Int)) from rfl]at m9;have t9:Turns (· ==6) Wt col5 (Wt.setCell ⟨L1.tg,tn*6+3,none⟩ (.int .u32 (v:Int))) col5:=Turns.setCell _ (by simp[Mt.st.tens.1]);obtain⟨M9,T9⟩:=zh2 m9 t9;clear m9 t9 Mt;refine zw ?_;go_simp;refine zP ?_;refine qbf ?_;rw[show tn*6+1+2=tn*6+3 from rfl];try rw[wv3]
    clear HS9 F3 c3 f3 wv wv2 wv3;obtain⟨W9,hW9⟩:=eqx (Wt.setCell ⟨L1.tg,tn*6+3,none⟩ (.int .u32 (v:Int)));rw[←hW9]at M9 T9 ⊢;clear hW9;have n9:=N7.below B7t.o N7.lt;have q9:=Q7.below B7t.o Q7.lt;have z9:=Z7.below B7t.o Z7.lt;obtain⟨N9,Q9,Z9,AS,C2,AI⟩:=zh6 (show Blk W9 B9 57 X5.toArray from(T9.block _ n9.lt (by rw[AB.o];rfl)).trans n9) (show Blk W9 w.heap.size 34 Q.toArray from(T9.block _ q9.lt (by rw[BX.o];rfl)).trans q9) (show Blk W9 (w.heap.size+1) 57 Tryz.zeroCells57 from(T9.block _ z9.lt (by rw[AF.o];rfl)).trans z9) ((AM.trans (Rest.of_below B7t.o)).step T9.o rfl) ((C1.call B7t.o).turns T9.o rfl) (A2.setX (n:=tn) (f:=fun x=>{x with tok:=x.tok - cost}) (fun x _ o=>{o with tok:=by have:=o.tok;show x.tok - cost≤x.burst;omega}));clear n9 q9 z9;have hs2:quz c s R=s1.setX tn fun x=>{x with tok:=x.tok - cost}:=by
     unfold quz;rw[CH.o,Option.getD_some,B6.o,tBe,CJ.o,BU.o]
    have A1:=zh1 (show doS c s R=(s1.setX tn fun x=>{x with tok:=x.tok - cost},a) by rw[qv1 AD.o A4.o A0.o,hs2,AO.o]);clear hs2;have kop:=(Q9.cell 0).trans B5.o;go_wp2_with fail
    refine zca (ql9 R.op W9) ?_;rw[A0.o];have BG:=AF;obtain⟨AT,A5⟩:=zh2 (qap (N9.o) 0 X5 zjq) (show (Tryz.prog.info? 57).map (·.size)=some (X5).length by rw[(A9).o];kernel_rfl);go_wp2_with (first
     |(refine zld AT.o zu57 A5.o ?_)
     |(refine wpList_store_row rfl 57 (.tmp 4) (.tmp 114) rfl (w.heap.size+1) (X5).toArray rfl rfl 57 _ (Z9.o) (by simpa using A5.o) (by simp[(A9).o,BE.o]) (by simpa using (BV).o) ?_))
    have A6:=qap ((Z9.o).setRow (X5).toArray) 0 X5 zjq;refine zrt A6 zu57 A5.o ⟨_,Col.back col5,?_,?_,rfl,?_,?_,((AS.o).newer (qam _ (w.heap.size+1) (X5).toArray) zo).back⟩;rotate_left 2
    · rw[A1.o]
      exact(((C2.o).grown (Z9.o) (qam _ (w.heap.size+1) (X5).toArray)).base (by have:=R4.size;omega)).back
    rw[A1.o];exact((M9.o).grown0 (.inr rfl) (qam _ (w.heap.size+1) (X5).toArray) (BG.o)).back
   |true=>
    obtain⟨A0,AU⟩:=zh2 hadm (qap BF.o 0 SV zjq);have cf:=qus c s s1 L L1 col5 g css css1 W6 HC.o HS.o M6.o C0.o;rw[BM.o]at cf;obtain⟨fw,hfw⟩:=xeq (qur c s);rw[hfw]at cf;obtain⟨CF,C4⟩:=zh2 cf hfw;clear hadm kop cf hfw n0;go_wp2_with (refine zld AU.o zu49 AH.o ?_)
    refine zcb CF.o fun w7 b7=>?_
    have n6:=N6.below b7 N6.lt;have n0:=(n6.cell 0).trans AP.o;have f0:=n6.frozen 0;have gr:=qab (tB9 w7 (some B9)) (p:=⟨B9,0,none⟩) (.inl rfl) (.int .i64 (fw:Int));have n7:=n6.set_ 0 (.int .i64 (fw:Int));have z7:=(Z6.below b7 Z6.lt).grown gr (by intro e;injection e with e;exact CY.o e.symm);have q7:=(Q6.below b7 Q6.lt).grown gr (by intro e;injection e with e;exact DM.o e.symm);have g7:=(G6.below b7 G6.lt).grown gr (by intro e;injection e with e;exact DL.o e.symm);have sb7:=(BF.below b7 BF.lt).grown gr (by intro e;injection e with e;exact DK.o e.symm);have m7:=(M6.call b7).grown0 (.inr rfl) gr AB.o;have st7:=(C0.call b7).grown0 (.inl rfl) gr AB.o;have r7:=(BZ.trans (Rest.of_below b7)).newer gr (by have:=BY.size;have:=CW.o;omega);have rv7:=(CX.call b7).grown n6 gr;go_upto_region 9 with(fail)
    obtain⟨W7,hW7⟩:=eqx (w7.setCell ⟨B9,0,none⟩ (.int .i64 (fw:Int)));rw[←hW7]at n7 z7 q7 g7 sb7 m7 st7 r7 rv7 ⊢;obtain⟨N7a,Z7,Q7,G7,DN,M7,DO,AM⟩:=zh8 n7 z7 q7 g7 sb7 m7 st7 r7;have C1:=zh1 rv7;clear hW7 n6 n0 f0 gr n7 z7 q7 g7 sb7 m7 st7 r7 rv7 b7;by_cases hf0:fw=0
    ·
     subst hf0;have N7:=zh1 (show Blk W7 B9 57 X5.toArray by have h:=N7a.o;rwa[qvr AP.o]at h);have n0:=(N7.cell 0).trans AP.o;have sokx:=A2.o;obtain⟨x1,hx1⟩:∃x,s1.tens[tn]? =some x:=⟨_,tA7 (by rw[sokx.tensn];exact AK.o)⟩;obtain⟨tk,htk⟩:=xeq x1.tok;have tkb:tk<4294967296:=by have h1:=(sokx.ten hx1).tok;have h2:=(sokx.ten hx1).burst;omega
     have cob:=CK.o;obtain⟨AQ,AR⟩:=zh2 hx1 htk;have q16:(tn:Int)<16:=by have:=AK.o;omega
     have q16n:=AK.o;have q0:(0:Int)≤tn:=zo;clear sokx hx1 htk;go_upto_region 12 with(fail)
     obtain⟨S,HS9⟩:=zS fun w'=>Zb (W7) w'
     refine zrs S 10 (zq 0 10 []) ((HS9.o _).mpr ((tA5 _ _).drew)) ?_;obtain⟨F7,F0⟩:=zh2 (fun(w':World)(h:S w')=>(M7.call ((HS9.o w').mp h)).c7) (fun(w':World)(h:S w')=>((G7.below ((HS9.o w').mp h) G7.lt).cell 0).trans X0.o);iterate 10 (refine zre rfl rfl (fun w1 hS=>by have g7:=F7.o w1 hS;have g0:=F0.o w1 hS;clear hS;go_simp;try rfl) ?_)
     refine qbf ?_;clear HS9 F7 F0;obtain⟨W8,hW8⟩:=eqx ((W7).drew);have AC:=zh1 (show Zb (W7) W8 by rw[hW8];exact(tA5 _ _).drew);rw[←hW8];clear hW8;have C3:=zh1 (fun (w':World) (hb:Zb (W7) w')=>(show w'.cell? ⟨L1.tg,tn*6+3,none⟩=some (.int .u32 (tk:Int)) from(M7.call hb).st.tens.cell ((qno AQ.o zo).trans (by rw[←AR.o];rfl))));go_upto_region 13 with(fail)
     obtain⟨S,HS9⟩:=zS fun w'=>Zb W8 w'
     refine zrs S 13 (zq 0 13 [(13,true)]) ((HS9.o _).mpr ((tA5 _ _).drew)) ?_;have F3:=zh1 (fun(w':World)(h:S w')=>C3.o w' (AC.trans (((HS9.o w').mp h).mono AC.size)));have wv:(tk:Int) - min (cost:Int) (tk:Int)=((tk - cost:Nat):Int):=zo;obtain⟨v,hv⟩:=xeq (tk - cost);rw[hv]at wv;have wv2:IntKind.u32.wrap ((tk:Int) - min (cost:Int) (tk:Int))=(v:Int):=by rw[tBf _ zo];exact wv
     have wv3:IntKind.u32.wrap (v:Int)=(v:Int):=tBf _ zo;have HV:=zh1 hv;clear hv;iterate 13 (refine zre rfl rfl (fun w1 hS=>by have g3:=F3.o w1 hS;clear hS;go_simp;try rfl) ?_)
     obtain⟨Wt,hWt⟩:=eqx W8.drew;have B7t:=zh1 (show Zb (W7) Wt by rw[hWt];exact AC.trans (((tA5 _ _).drew).mono AC.size));rw[←hWt];clear hWt;have c3:=C3.o Wt B7t.o;have Mt:=M7.call B7t.o;have f3:=Mt.st.tens.frozen (tn*6+3);have m9:=Mt.tenOver (.inr rfl) A2.o AQ.o (j:=3) (cs:=[.int .u32 (v:Int)]) (fun x=>{x with tok:=x.tok - cost}) zm (by rw[←HV.o,←AR.o];simp[over,tenv]);rw[show Wt.setCells L1.tg (tn*6+3) [.int .u32 (v:Int)]=Wt.setCell ⟨L1.tg,tn*6+3,none⟩ (.int .u32 (v:Int)) from rfl]at m9;have t9:Turns (· ==6) Wt col5 (Wt.setCell ⟨L1.tg,tn*6+3,none⟩ (.int .u32 (v:Int))) col5:=Turns.setCell _ (by simp[Mt.st.tens.1]);obtain⟨M9,T9⟩:=zh2 m9 t9;clear m9 t9 Mt;refine zw ?_;go_simp;refine zP ?_;refine qbf ?_;rw[show tn*6+1+2=tn*6+3 from rfl];try rw[wv3]
     clear HS9 F3 c3 f3 wv wv2 wv3;obtain⟨W9,hW9⟩:=eqx (Wt.setCell ⟨L1.tg,tn*6+3,none⟩ (.int .u32 (v:Int)));rw[←hW9]at M9 T9 ⊢;clear hW9;have n9:=N7.below B7t.o N7.lt;have q9:=Q7.below B7t.o Q7.lt;have z9:=Z7.below B7t.o Z7.lt;obtain⟨N9,Q9,Z9,AS,C2,AI⟩:=zh6 (show Blk W9 B9 57 X5.toArray from(T9.block _ n9.lt (by rw[AB.o];rfl)).trans n9) (show Blk W9 w.heap.size 34 Q.toArray from(T9.block _ q9.lt (by rw[BX.o];rfl)).trans q9) (show Blk W9 (w.heap.size+1) 57 Tryz.zeroCells57 from(T9.block _ z9.lt (by rw[AF.o];rfl)).trans z9) ((AM.trans (Rest.of_below B7t.o)).step T9.o rfl) ((C1.call B7t.o).turns T9.o rfl) (A2.setX (n:=tn) (f:=fun x=>{x with tok:=x.tok - cost}) (fun x _ o=>{o with tok:=by have:=o.tok;show x.tok - cost≤x.burst;omega}));clear n9 q9 z9;clear n0;have hs3:quy c s R=((s1.setX tn fun x=>{x with tok:=x.tok - cost}).setT 0 fun t=>{t with leaves:=t.leaves++[qn1 (s1.setX tn fun x=>{x with tok:=x.tok - cost}) R]}).pub c 0:=by
      unfold quy;rw[CH.o,Option.getD_some,B6.o,tBe,CJ.o,BU.o]
     obtain⟨hl1,hl2⟩:=qvi C4.o;have hle:=qts (s:=s) (s':=s1.setX tn fun x=>{x with tok:=x.tok - cost}) (by have h:=qtp (c:=c) (s:=s) A0.o;rw[BU.o]at h;exact h) hl1;have CN:=zh1 (DG.o W9 col5 _ L1 _ AI.o M9.o (HR.rest AS.o) (TT.rest AS.o H.base) A0.o hle);have sok3:=(qtr AI.o HR.good A0.o hle (s1.setX tn fun x=>{x with tok:=x.tok - cost})).pub c (n:=0) zdc;obtain⟨s3,h3⟩:=xeq (((s1.setX tn fun x=>{x with tok:=x.tok - cost}).setT 0 fun t=>{t with leaves:=t.leaves++[qn1 (s1.setX tn fun x=>{x with tok:=x.tok - cost}) R]}).pub c 0);rw[h3]at hs3 sok3 CN;obtain⟨D1,AJ,C5⟩:=zh3 hs3 sok3 (qap Q9.o 0 Q zjq);have kop:=(Q9.cell 0).trans B5.o;obtain⟨DP,DQ⟩:=zh2 hl1 hl2;clear hs3 sok3 h3 hle hl1 hl2;go_wp2_with fail
     refine zca (ql9 R.op W9) ?_;rw[A0.o];clear kop;go_wp2_with (refine zld C5.o zu34 BL.o ?_)
     refine CN.o.mono ?_;rintro e w11 ⟨col6,rfl,d11⟩;obtain⟨L3,css3,m11⟩:=d11.mdl;obtain⟨C6,C7,AV,BG,C8,AW,AX,BI⟩:=zh8 (show Blk w11 B9 57 X5.toArray from(d11.turns.block _ N9.lt (by rw[AB.o];rfl)).trans N9.o) (show Blk w11 w.heap.size 34 Q.toArray from(d11.turns.block _ Q9.lt (by rw[BX.o];rfl)).trans Q9.o) (show Blk w11 (w.heap.size+1) 57 Tryz.zeroCells57 from(d11.turns.block _ Z9.lt (by rw[AF.o];rfl)).trans Z9.o) ((d11.turns.same _ Z9.lt).trans AF.o) ((d11.turns.same _ N9.lt).trans AB.o) (AS.step d11.turns rfl) (C2.turns d11.turns rfl) m11;clear m11 d11;have kop:=(C7.cell 0).trans B5.o;by_cases h9:R.op=9
     ·
      have q9:(R.op==9)=true:=by simpa using h9
      have A1:=zh1 (show doS c s R=(s3,{a with hd:=(s3.tres[R.tree.toNat]?.getD Tre.zero).hd}) by rw[qvj AD.o A4.o A0.o C4.o h9,D1.o,AO.o]);obtain⟨t0,ht0⟩:=qvs h9 A4.o;obtain⟨hp,ht1,-,-⟩:=Sta.tree_some ht0;obtain⟨n,hn⟩:∃n:Nat,R.tree=n:=⟨R.tree.toNat,by omega⟩;have hn16:n<16:=by
       obtain⟨h1,_⟩:=tA8 ht1;rw[HS.tresn]at h1;omega
      obtain⟨t3,ht3⟩:∃t,s3.tres[n]? =some t:=⟨_,tA7 (by rw[AJ.tresn];exact hn16)⟩;rw[hn,tBe,ht3,Option.getD_some]at A1;have k35:Q.toArray[35]? =some (.int .i64 (n:Int)):=by rw[tA3,←hn];exact BK.o 0
      have DR:=zh1 k35;have h3o:=(AJ.tre ht3).hd;have DS:=zh1 ht3;have q16:(n:Int)<16:=zo;have q0:(0:Int)≤n:=zo;clear ht0 hp ht1 hn ht3 k35 h9;obtain⟨HV,hHV⟩:=xeq (hdv t3.hd);have lHV:HV.length=68:=by rw[←hHV];exact qnm h3o
      have oHV:∀u∈HV,u.oneCell'=true:=by rw[←hHV];exact qmb _
      have DT:=zh1 (fun(w':World)(hb:Zb w11 w')=>(show w'.rangeAt L3.rg (n*75+7) HV from by
       obtain⟨-,Ad,cd,Al',cl',Aq,cq,-,hcell,-,-,-⟩:=(BI.call hb).st.tree AJ.o DS.o;intro j u hu;have h7:=hcell (7+j) u ((qum _ _ _ _ j).trans (by rw[hHV];exact hu));rw[←Nat.add_assoc]at h7;exact h7))
      obtain⟨D2,DU,C9,DV,D3⟩:=zh5 (zI 55 lHV) hHV lHV oHV h3o;clear hHV lHV oHV h3o;go_upto_region 17 with(fail)
      clear kop;obtain⟨S,HS9⟩:=zS fun w'=>Zb w11 w'
      refine zrs S 11 (zq 0 11 [(11,true)]) ((HS9.o _).mpr ((tA5 _ _).drew)) ?_;obtain⟨F8,D4,FH⟩:=zh3 (fun(w':World)(h:S w')=>(BI.call ((HS9.o w').mp h)).c8) (fun(w':World)(h:S w')=>((C7.below ((HS9.o w').mp h) C7.lt).cell 35).trans DR.o) (fun(w':World)(h:S w')=>DT.o w' ((HS9.o w').mp h));iterate 9 (refine zre rfl rfl (fun w1 hS=>by have g8:=F8.o w1 hS;have g35:=D4.o w1 hS;clear hS;go_simp;try rfl) ?_)
      refine qoc rfl rfl 55 (.tmp 111) rfl L3.rg (n*75+7) rfl HV _ FH.o Tryz.underlying55 rfl D2.o ?_;refine zP ?_;iterate 1 (refine zrb ?_)
      obtain⟨Wh,hWh,BH⟩:=zdr w11;rw[←hWh];clear hWh;have nh:=C6.below BH.o C6.lt;refine zw ?_;refine wp_store_mid 55 (.tmp 113) (.tmp 112) rfl B9 4 HV.toArray rfl rfl (fun j hj=>⟨by rw[nh.cell,tA3,tA7 (by have h0:HV.toArray.size=68:=List.size_toArray.trans C9.o;rw[A9.o];omega)];simp,nh.frozen _⟩) (by have h0:HV.toArray.size=HV.length:=tB6;rw[h0];exact D2.o) (by simpa using DV.o) ?_;have gr:=qn9 B9 HV 4 Wh;have n12:=qn8 HV 4 Wh X5 nh (by rw[A9.o,C9.o];decide);have z12:=(AV.below BH.o AV.lt).grown gr (by intro e;injection e with e;exact CY.o e.symm);have m12:=(BI.call BH.o).grown0 (.inr rfl) gr C8.o;have r12:=(AW.trans (Rest.of_below BH.o)).newer gr (by have:=BY.size;have:=CW.o;omega);have rv12:=((AX.call BH.o).grown nh gr).head CU.o.1 D3.o;rw[DU.o]at rv12;obtain⟨X6,hX6⟩:=xeq (over X5 4 HV);have lX6:X6.length=106:=by rw[←hX6,qn7 (by rw[A9.o,C9.o];decide)];exact A9.o
      rw[hX6]at n12 rv12;obtain⟨X7,e7,lX7,oX7⟩:=rv12.cells ⟨D3.o,CU.o.2⟩;have e67:X6=X7:=by injection e7 with e7;simpa using e7
      rw[←e67]at oX7;clear e7 e67 lX7;obtain⟨D7,DW,D8,BJ,D9,DA,AY⟩:=zh7 lX6 oX7 n12 z12 m12 r12 rv12;clear nh gr n12 z12 m12 r12 rv12 lX6 oX7 hX6;refine⟨fun h=>absurd h zdc,zput ?_⟩;refine qbf ?_;clear HS9 F8 D4 FH;obtain⟨E4,hW12⟩:=eqx (Wh.setCells B9 4 HV);try rw[show HV.toArray.toList=HV from rfl]
      rw[←hW12]at D8 BJ D9 DA AY ⊢;clear hW12;obtain⟨AT,A5⟩:=zh2 (qap (D8.o) 0 X6 zjq) (show (Tryz.prog.info? 57).map (·.size)=some (X6).length by rw[(D7).o];kernel_rfl);go_wp2_with (first
       |(refine zld AT.o zu57 A5.o ?_)
       |(refine wpList_store_row rfl 57 (.tmp 4) (.tmp 114) rfl (w.heap.size+1) (X6).toArray rfl rfl 57 _ (BJ.o) (by simpa using A5.o) (by simp[(D7).o,BE.o]) (by simpa using (DW).o) ?_))
      have A6:=qap ((BJ.o).setRow (X6).toArray) 0 X6 zjq;refine zrt A6 zu57 A5.o ⟨_,Col.back col6,?_,?_,rfl,?_,?_,((DA.o).newer (qam _ (w.heap.size+1) (X6).toArray) zo).back⟩;rotate_left 2
      · rw[A1.o]
        exact(((AY.o).grown (BJ.o) (qam _ (w.heap.size+1) (X6).toArray)).base (by have:=R4.size;omega)).back
      rw[A1.o];exact((D9.o).grown0 (.inr rfl) (qam _ (w.heap.size+1) (X6).toArray) (BG.o)).back
     have q9:(R.op==9)=false:=by simpa using h9
     have A1:=zh1 (show doS c s R=(s3,a) by rw[qv0 AD.o A4.o A0.o DP.o DQ.o h9,D1.o,AO.o]);clear h9;go_upto_region 18 with(fail)
     clear kop;obtain⟨AT,A5⟩:=zh2 (qap (C6.o) 0 X5 zjq) (show (Tryz.prog.info? 57).map (·.size)=some (X5).length by rw[(A9).o];kernel_rfl);go_wp2_with (first
      |(refine zld AT.o zu57 A5.o ?_)
      |(refine wpList_store_row rfl 57 (.tmp 4) (.tmp 114) rfl (w.heap.size+1) (X5).toArray rfl rfl 57 _ (AV.o) (by simpa using A5.o) (by simp[(A9).o,BE.o]) (by simpa using (BV).o) ?_))
     have A6:=qap ((AV.o).setRow (X5).toArray) 0 X5 zjq;refine zrt A6 zu57 A5.o ⟨_,Col.back col6,?_,?_,rfl,?_,?_,((AW.o).newer (qam _ (w.heap.size+1) (X5).toArray) zo).back⟩;rotate_left 2
     · rw[A1.o]
       exact(((AX.o).grown (AV.o) (qam _ (w.heap.size+1) (X5).toArray)).base (by have:=R4.size;omega)).back
     rw[A1.o];exact((BI.o).grown0 (.inr rfl) (qam _ (w.heap.size+1) (X5).toArray) (BG.o)).back
    have qa:((fw:Int)==0)=false:=by simp;omega
    have A1:=zh1 (qvh (s:=s) AD.o A4.o A0.o C4.o hf0);obtain⟨Lu,mu,tu⟩:=M7.unfork DO.o;rw[BM.o]at mu tu;obtain⟨MU,TU,AU⟩:=zh3 mu tu (qap DN.o 0 SV zjq);have CA:=zh1 (show W7.there g 4 SV.toArray.size from by
     have h0:SV.toArray.size=6:=List.size_toArray.trans BN.o;rw[h0];exact M7.there4)
    have CC:=zh1 (show (Tryz.prog.info? 49).map (·.size)=some SV.toArray.size from by
     have h0:SV.toArray.size=SV.length:=tB6;rw[h0];exact AH.o)
    obtain⟨CE,DB⟩:=zh2 (show SV.toArray.all (·.oneCell')=true by simpa using BO.o) (show (X5.toArray.setIfInBounds 0 (.int .i64 (fw:Int)))[0]? =some (.int .i64 (fw:Int)) by rw[Array.getElem?_setIfInBounds_self_of_lt (by rw[tB6,A9.o];decide)]);have n0:=(N7a.cell 0).trans DB.o;clear mu tu hf0;go_upto_region 11 with(first
     |(refine zld AU.o zu49 AH.o ?_)
     |(refine wpList_store_mid rfl 49 (.tmp 68) (.tmp 66) rfl g 4 SV.toArray rfl rfl CA.o CC.o CE.o ?_))
    clear n0;obtain⟨Wu,hWu⟩:=eqx (W7.setCells g 4 SV);try rw[show SV.toArray.toList=SV from rfl]
    rw[←hWu]at MU TU ⊢;clear hWu;have n7:=(TU.block _ N7a.lt (by rw[AB.o];rfl)).trans N7a.o;have z7:Blk Wu (w.heap.size+1) 57 Tryz.zeroCells57:=(TU.block _ Z7.lt (by rw[AF.o];rfl)).trans Z7.o;obtain⟨Z7u,R7u⟩:=zh2 z7 (AM.step TU.o rfl);have n0:=(Blk.cell (w:=Wu) n7 0).trans DB.o;clear n7 z7;obtain⟨X9,hX9⟩:=xeq (qqd (rWhy fw));have lX9:X9.length=106:=by rw[←hX9];exact qqe _ Hd.zero_Ok (by simp[rWhy,qiu,qgt])
    have oX9:∀u∈X9,u.oneCell'=true:=by rw[←hX9];exact qqf _
    obtain⟨BT,AZ,B2,B3,AG,A7⟩:=zh6 (show Tryz.prog.built 57 [(0,.int .i64 ((fw:Nat):Int))]=some X9.toArray by rw[←hX9];exact qqc _) hX9 lX9 oX9 (zI 57 lX9) qqg;clear hX9 lX9 oX9;go_wp2_with (first
     |(refine qbj rfl ⟨.agg X9.toArray,qgq 57 _ rfl _ _ BT.o (by simp[Act.eval,Act.put]),?_⟩)
     |(refine zst (Z7u.o) AG.o (by simp[B2.o,A7.o]) B3.o ?_))
    have A6:=qap ((Z7u.o).setRow X9.toArray) 0 X9 zjq;refine zrt A6 zu57 AG.o ⟨_,col5,?_,?_,rfl,?_,?_,(R7u.o).newer (qam _ (w.heap.size+1) X9.toArray) zo⟩;rotate_left 2
    · rw[(A1.o),←AZ.o]
      exact RspV.plain _ _ _ _ rfl rfl rfl
    rw[(A1.o)];exact(MU.o).grown0 (.inl rfl) (qam _ (w.heap.size+1) X9.toArray) B4.o
  ·
   have qa:((aw:Int)==0)=false:=by simp;omega
   have A1:=zh1 (qv3 (s:=s) AD.o (show (qmz c s R).2.why=(aw:Int) by rw[AO.o];exact CV.o) ha0);obtain⟨Lu,mu,tu⟩:=M6.unfork C0.o;rw[BM.o]at mu tu;obtain⟨MU,TU,AU⟩:=zh3 mu tu (qap BF.o 0 SV zjq);have CA:=zh1 (show W6.there g 4 SV.toArray.size from by
    have h0:SV.toArray.size=6:=List.size_toArray.trans BN.o;rw[h0];exact M6.there4)
   have CC:=zh1 (show (Tryz.prog.info? 49).map (·.size)=some SV.toArray.size from by
    have h0:SV.toArray.size=SV.length:=tB6;rw[h0];exact AH.o)
   have CE:=zh1 (show SV.toArray.all (·.oneCell')=true by simpa using BO.o);clear mu tu ha0;go_upto_region 11 with(first
    |(refine zld AU.o zu49 AH.o ?_)
    |(refine wpList_store_mid rfl 49 (.tmp 68) (.tmp 66) rfl g 4 SV.toArray rfl rfl CA.o CC.o CE.o ?_))
   clear n0;obtain⟨W7,hW7⟩:=eqx (W6.setCells g 4 SV);try rw[show SV.toArray.toList=SV from rfl]
   rw[←hW7]at MU TU ⊢;clear hW7;have n7:Blk W7 B9 57 X5.toArray:=(TU.block _ N6.lt (by rw[AB.o];rfl)).trans N6.o;have z7:Blk W7 (w.heap.size+1) 57 Tryz.zeroCells57:=(TU.block _ Z6.lt (by rw[AF.o];rfl)).trans Z6.o;obtain⟨Z7,AM⟩:=zh2 z7 (BZ.step TU.o rfl);have n0:=(n7.cell 0).trans AP.o;clear n7 z7;obtain⟨X9,hX9⟩:=xeq (qqd (rWhy aw));have lX9:X9.length=106:=by rw[←hX9];exact qqe _ Hd.zero_Ok (by simp[rWhy,qiu,qgt])
   have oX9:∀u∈X9,u.oneCell'=true:=by rw[←hX9];exact qqf _
   obtain⟨BT,AZ,B2,B3,AG,A7⟩:=zh6 (show Tryz.prog.built 57 [(0,.int .i64 ((aw:Nat):Int))]=some X9.toArray by rw[←hX9];exact qqc _) hX9 lX9 oX9 (zI 57 lX9) qqg;clear hX9 lX9 oX9;go_wp2_with (first
    |(refine qbj rfl ⟨.agg X9.toArray,qgq 57 _ rfl _ _ BT.o (by simp[Act.eval,Act.put]),?_⟩)
    |(refine zst (Z7.o) AG.o (by simp[B2.o,A7.o]) B3.o ?_))
   have A6:=qap ((Z7.o).setRow X9.toArray) 0 X9 zjq;refine zrt A6 zu57 AG.o ⟨_,col5,?_,?_,rfl,?_,?_,(AM.o).newer (qam _ (w.heap.size+1) X9.toArray) zo⟩;rotate_left 2
   · rw[(A1.o),←AZ.o]
     exact RspV.plain _ _ _ _ rfl rfl rfl
   rw[(A1.o)];exact(MU.o).grown0 (.inl rfl) (qam _ (w.heap.size+1) X9.toArray) B4.o
 have A1:=zh1 (qv2 AD.o hw0);have qn:((wy:Int)==0)=false:=by simp;omega
 obtain⟨M1,R1⟩:=zh2 (H.call AE.o) (Rest.of_below (col:=col) AE.o);clear hw0;obtain⟨X9,hX9⟩:=xeq (qqd (rWhy wy));have lX9:X9.length=106:=by rw[←hX9];exact qqe _ Hd.zero_Ok (by simp[rWhy,qiu,qgt])
 have oX9:∀u∈X9,u.oneCell'=true:=by rw[←hX9];exact qqf _
 obtain⟨BT,AZ,B2,B3,AG,A7⟩:=zh6 (show Tryz.prog.built 57 [(0,.int .i64 ((wy:Nat):Int))]=some X9.toArray by rw[←hX9];exact qqc _) hX9 lX9 oX9 (zI 57 lX9) qqg;clear hX9 lX9 oX9;go_wp2_with (first
  |(refine qbj rfl ⟨.agg X9.toArray,qgq 57 _ rfl _ _ BT.o (by simp[Act.eval,Act.put]),?_⟩)
  |(refine zst (Z1.o) AG.o (by simp[B2.o,A7.o]) B3.o ?_))
 have A6:=qap ((Z1.o).setRow X9.toArray) 0 X9 zjq;refine zrt A6 zu57 AG.o ⟨_,col,?_,?_,rfl,?_,?_,(R1.o).newer (qam _ (w.heap.size+1) X9.toArray) zo⟩;rotate_left 2
 · rw[(A1.o),←AZ.o]
   exact RspV.plain _ _ _ _ rfl rfl rfl
 rw[(A1.o)];exact(M1.o).grown0 (.inl rfl) (qam _ (w.heap.size+1) X9.toArray) B4.o
def qvu (s:Sta)(k:Nat):Sta:={s with clock:=if s.clock<18446744073709551615 then s.clock+1 else s.clock,tens:=s.tens.mapIdx fun i x=>if i<k∧x.on=true then {x with tok:=if x.burst<x.tok+x.rate then x.burst else x.tok+x.rate} else x}
theorem qvv(s:Sta):qvu s 0={s with clock:=if s.clock<18446744073709551615 then s.clock+1 else s.clock}:=by
 unfold qvu;congr 1
 apply List.ext_getElem?;intro i;rw[List.getElem?_mapIdx];cases s.tens[i]? <;>simp
theorem qvw(h:s.tens.length=16):qvu s 16=qn3 s:=by
 unfold qvu qn3;congr 1
 apply List.ext_getElem?;intro i;rw[List.getElem?_mapIdx,tBj];cases hi:s.tens[i]? with
 |none=>rfl
 |some x=>
  obtain⟨h1,_⟩:=tA8 hi;simp[show i<16 by omega]
theorem qvx{x:Ten}(h:s.tens[i]? =some x):(qvu s k).tens[i]? =some (if i<k∧x.on=true then {x with tok:=if x.burst<x.tok+x.rate then x.burst else x.tok+x.rate} else x):=by
 show (s.tens.mapIdx _)[i]? =_;rw[List.getElem?_mapIdx,h];rfl
theorem qvy{x:Ten}(h:s.tens[k]? =some x)(ho:x.on=false):qvu s (k+1)=qvu s k:=by
 unfold qvu;congr 1
 apply List.ext_getElem?;intro i;rw[List.getElem?_mapIdx,List.getElem?_mapIdx];by_cases e:i=k
 · subst e
   rw[h];simp[ho]
 cases s.tens[i]? with
 |none=>rfl
 |some y=>
  have e2:i<k+1 ↔ i<k:=zo;simp only[Option.map_some,e2]
theorem qvz{x:Ten}(h:s.tens[k]? =some x)(ho:x.on=true):qvu s (k+1)=(qvu s k).setX k fun y=>{y with tok:=if y.burst<y.tok+y.rate then y.burst else y.tok+y.rate}:=by
 unfold qvu Sta.setX;congr 1
 apply List.ext_getElem?;intro i;by_cases e:i=k
 ·
  subst e;rw[qo9 (x:=x)]
  · rw[List.getElem?_mapIdx,h]
    simp[ho]
  dsimp only;rw[List.getElem?_mapIdx,h];simp
 rw[qoa _ _ (Ne.symm e)];dsimp only;rw[List.getElem?_mapIdx,List.getElem?_mapIdx];cases s.tens[i]? with
 |none=>rfl
 |some y=>
  have e2:i<k+1 ↔ i<k:=zo;simp only[Option.map_some,e2]
theorem qw0(hs:s.Ok)(k:Nat):(qvu s k).Ok:=by
 have hc:(if s.clock<18446744073709551615 then s.clock+1 else s.clock)<18446744073709551616:=by have:=hs.clock;split<;>omega
 refine {hs with clock:=hc,tensn:=by simpa [qvu] using hs.tensn,tens:=fun x hx=>?_};obtain⟨i,hi,rfl⟩:=List.mem_mapIdx.1 hx;have o:=hs.tens _ (List.getElem_mem hi);split
 · exact {o with tok:=by have:=o.tok;dsimp only;split<;>omega}
 exact o
theorem qw1(c:Cfg)(s:Sta)(L:Loc)(col:Col)(g:Nat)(css:List (List Value))(w:World)(hs:s.Ok)(h:Mdl w col 2 g c s L css):
 Zc 34 #[.pointer (some ⟨g,0,none⟩)] w fun e w'=>e=.returned (.tuple #[])∧Mdl w' col 2 g c (qn3 s) L css∧Rest w col w' col:=by
 have clb:=hs.clock;obtain⟨clk,hclk⟩:=xeq s.clock;have c4:=h.c4;have f4:=h.blk.frozen 4;rw[hclk]at c4 clb;obtain⟨cl2,hcl2⟩:∃n:Nat,(if clk<18446744073709551615 then clk+1 else clk)=n:=⟨_,rfl⟩;have hsum:sumI (clk:Int) 1=(cl2:Int):=by
  unfold sumI;rw[←hcl2];split<;>split<;>omega
 have m1:=h.own1 (.inl rfl) 4 (.int .u64 (cl2:Int)) (s':=qvu s 0) (by rw[qvv];simp only[hclk,hcl2];rfl) (by rw[qvv]) (by rw[qvv]) (by rw[qvv]);have t1:Turns (· ==1) w col (w.setCell ⟨g,4,none⟩ (.int .u64 (cl2:Int))) col:=Turns.setCell _ (by simp[h.own]);have r1:=Rest.of_turns t1 rfl;obtain⟨HS,A0,A4,A1⟩:=zh4 hs m1 r1 hsum;clear hs h hclk hcl2 hsum m1 t1 r1;go_enter Tryz.func34,Tryz.ntmps34
 go_wp2_with fail
 refine zca (qq3 (clk:Int) 1 w zo zo zo zo) ?_;rw[A1.o];go_upto_region 1 with(fail)
 obtain⟨W1,hW1⟩:=eqx (w.setCell ⟨g,4,none⟩ (.int .u64 (cl2:Int)));rw[←hW1]at A0 A4 ⊢;clear hW1 c4 f4;have c7:=A0.c7;go_wp2_with fail
 clear c7;go_loopw [20] (fun i wr=>∃j:Nat,j≤16∧i=.int .i64 j∧Hid (Mdl wr col 2 g c (qvu s j) L css∧Rest w col wr col)) (fun i _=>16 - (intOf i).toNat)
 case atStart=>exact⟨0,by omega,rfl,zh1 ⟨A0.o,A4.o⟩⟩
 case round=>
  obtain⟨j,hj,rfl,hl⟩:=hrel;by_cases hjn:j<16
  ·
   have qj:(j:Int)<16:=zo;have qj0:(0:Int)≤j:=zo;obtain⟨x,hx⟩:∃x,s.tens[j]? =some x:=⟨_,tA7 (by rw[HS.tensn];exact hjn)⟩;have hxo:=HS.ten hx;have hxj:(qvu s j).tens[j]? =some x:=by rw[qvx hx];simp
   have c7:=hl.o.1.c7;have tc:∀i u,i<6→(tenv x)[i]? =some u→wr.cell? ⟨L.tg,j*6+i,none⟩=some u:=fun i u hi hu=>hl.o.1.st.tens.cell ((qno hxj hi).trans hu)
   have t0:=tc 0 (.bool x.on) zo rfl;rw[Nat.add_zero]at t0;obtain⟨on,hon⟩:=xeq x.on;rw[hon]at t0;obtain⟨HL,HX,A2,A6,A5,A7⟩:=zh6 hl.o hx hxo hxj hon tc;clear hl hx hxo hxj hon tc;cases on with
   |false=>
    go_wp2
    go_roundw
    case rel=>exact⟨j+1,by omega,by go_num,zh1 (by rw[qvy HX.o A5.o];exact HL.o)⟩
    case measure=>simp[intOf];omega
   |true=>
    obtain⟨ra,hra⟩:=xeq x.rate;obtain⟨bu,hbu⟩:=xeq x.burst;obtain⟨tk,htk⟩:=xeq x.tok;obtain⟨tk2,htk2⟩:∃n:Nat,(if bu<tk+ra then bu else tk+ra)=n:=⟨_,rfl⟩;have b1:=A2.rate;have b2:=A2.burst;have b3:=A2.tok;rw[hra]at b1;rw[hbu]at b2;rw[htk,hbu]at b3;have hti:qq2 (ra:Int) bu tk 1=(tk2:Int):=by
     unfold qq2;rw[←htk2];split<;>split<;>omega
    have A8:=zh1 (show wr.rangeAt L.tg (j*6+1) [.int .u32 (ra:Int),.int .u32 (bu:Int),.int .u32 (tk:Int)] from fun i u hu=>by
     obtain⟨hi,_⟩:=tA8 hu;have hi3:i<3:=by simpa using hi
     rw[Nat.add_assoc];refine A7.o (1+i) u zo ?_;rw[←hu,←hra,←hbu,←htk];unfold tenv;match i,hi3 with
     |0,_=>rfl
     |1,_=>rfl
     |2,_=>rfl)
    obtain⟨A9,AA,AB,AC,A3⟩:=zh5 hti hra hbu htk htk2;clear hti hra hbu htk htk2;go_wp2_with (first
     |(refine qaq rfl 90 (.tmp 37) rfl L.tg (j*6+1) rfl [.int .u32 (ra:Int),.int .u32 (bu:Int),.int .u32 (tk:Int)] _ A8.o Tryz.underlying90 rfl zk ?_)
     |((with_reducible refine(qq6 (ra:Int) bu tk 1 wr zo zo zo zo zo zo zo zo).mono ?_);rintro e w5 ⟨rfl,hb5⟩;have hth:=(HL.o.1.call hb5).st.tens.there (o:=j*6+1) (m:=3) (by rw[qnq,show (qvu s j).tens.length=16 from(qw0 HS.o j).tensn];omega);rw[A9.o])
     |(refine wpList_store_mid rfl 90 (.tmp 41) (.tmp 39) rfl L.tg (j*6+1) #[.int .u32 (ra:Int),.int .u32 (bu:Int),.int .u32 (tk2:Int)] rfl rfl hth zk (by simp[Value.oneCell']) ?_))
    obtain⟨M5,R5⟩:=zh2 (HL.o.1.call hb5) (HL.o.2.trans (Rest.of_below hb5));have m6:=M5.tenOver (.inl rfl) (qw0 HS.o j) A6.o (j:=1) (cs:=[.int .u32 (ra:Int),.int .u32 (bu:Int),.int .u32 (tk2:Int)]) (fun y=>{y with tok:=if y.burst<y.tok+y.rate then y.burst else y.tok+y.rate}) zm (by simp[over,tenv,AA.o,AB.o,AC.o,A3.o]);have t6:Turns (· ==2) w5 col (w5.setCells L.tg (j*6+1) [.int .u32 (ra:Int),.int .u32 (bu:Int),.int .u32 (tk2:Int)]) col:=Turns.setCells _ (by simp[M5.st.tens.1]);obtain⟨M6,R6⟩:=zh2 m6 (R5.step t6 rfl);clear m6 t6 hb5 t0 c7;try go_wp2
    go_roundw
    case rel=>
     have MR:=zh1 (And.intro M6.o R6.o);rw[←qvz HX.o A5.o]at MR;exact⟨j+1,by omega,by go_num,MR⟩
    case measure=>simp[intOf];omega
  obtain rfl:j=16:=zo;have HL:=zh1 hl.o;clear hl;go_wp2
  go_end0
  exact⟨rfl,by rw[←qvw HS.tensn];exact HL.o.1,HL.o.2⟩
abbrev LaneI:=Int × Int × Int
def qw2 (x:LaneI):List Value:=[.int .i64 x.1,.int .i64 x.2.1,.int .i64 x.2.2]
def qw3 (l:List LaneI):List Value:=l.flatMap qw2
theorem qw4(l:List LaneI):(qw3 l).length=l.length*3:=by
 unfold qw3;rw[List.flatMap_def,qnh (sz:=3) (fun c hc=>by obtain⟨y,_,rfl⟩:=List.mem_map.1 hc;rfl),tBl]
theorem qw5{l:List LaneI}{x:LaneI}(h:l[n]? =some x)(hj:j<3):(qw3 l)[n*3+j]? =(qw2 x)[j]? :=by
 unfold qw3;rw[List.flatMap_def];exact qng (fun c hc=>by obtain⟨y,_,rfl⟩:=List.mem_map.1 hc;rfl) (by rw[tBj,h];rfl) hj
theorem qw6(l:List LaneI):∀u∈qw3 l,u.oneCell'=true:=by
 intro u hu;obtain⟨x,_,hx⟩:=List.mem_flatMap.1 hu;unfold qw2 at hx;simp only[List.mem_cons,List.not_mem_nil,or_false]at hx;rcases hx with rfl|rfl|rfl<;>rfl
theorem qw7{ws:List Int}{a:Nat}(hk:k<ws.length)(hb:∀j,j<k→ws.getD ((a+j) % ws.length) 0<1)(h:1≤ws.getD ((a+k) % ws.length) 0):qn5 ws a=some ((a+k) % ws.length):=by
 unfold qn5;rw[List.find?_map,(List.find?_range_eq_some (i:=k)).2 ⟨by simpa using h,List.mem_range.2 hk,fun j hj=>by
  have:=hb j hj;simp only[Function.comp];rw[decide_eq_false zo];rfl⟩]
 rfl
theorem qw8{ws:List Int}{a:Nat}(hb:∀j,j<ws.length→ws.getD ((a+j) % ws.length) 0<1):qn5 ws a=none:=by
 unfold qn5;rw[List.find?_map,(List.find?_range_eq_none).2 fun j hj=>by
  have:=hb j hj;simp only[Function.comp];rw[decide_eq_false zo];rfl]
 rfl
def qw9 (l:List LaneI)(a:Nat)(q:Int):LaneI × List LaneI:=
 match qn5 (l.map (·.1)) a with
 |none=>((-1,0,(a:Int)),l)
 |some k=>
  let x:=l.getD k (0,0,0)
  let d:=x.2.2+min x.1 4*min (max q 1) 2
  let take:=max (min d x.2.1) 0
  (((k:Int),take,(((k+1) % l.length:Nat):Int)),l.set k (x.1,x.2.1 - take,if x.2.1 - take=0 then 0 else d - take))
def LanesOk (l:List LaneI):Prop:=∀x∈l,(0≤x.1∧x.1≤4)∧(0≤x.2.1∧x.2.1≤1048576)∧(0≤x.2.2∧x.2.2≤1048576)
theorem qwa{l:List LaneI}{a:Nat}(h:qn5 (l.map (·.1)) a=none):qw9 l a q=((-1,0,(a:Int)),l):=by
 unfold qw9;rw[h]
theorem qwb{l:List LaneI}{a:Nat}{x:LaneI}(h:qn5 (l.map (·.1)) a=some k)(hx:l[k]? =some x):
 qw9 l a q=(((k:Int),max (min (x.2.2+min x.1 4*min (max q 1) 2) x.2.1) 0,(((k+1) % l.length:Nat):Int)),
  l.set k (x.1,x.2.1 - max (min (x.2.2+min x.1 4*min (max q 1) 2) x.2.1) 0,if x.2.1 - max (min (x.2.2+min x.1 4*min (max q 1) 2) x.2.1) 0=0 then 0 else x.2.2+min x.1 4*min (max q 1) 2 - max (min (x.2.2+min x.1 4*min (max q 1) 2) x.2.1) 0)):=by
 unfold qw9;rw[h];simp only[tB4,hx,Option.getD_some]
def qwc (s:Sta):List LaneI:=s.tres.mapIdx fun i t=>(qn6 i t,(t.queue.length:Int),t.deficit)
theorem qwd(s:Sta):(qwc s).map (·.1)=s.tres.mapIdx fun i t=>qn6 i t:=by
 unfold qwc;apply List.ext_getElem?;intro i;rw[tBj,List.getElem?_mapIdx,List.getElem?_mapIdx];cases s.tres[i]? <;>rfl
theorem qwe(h:s.tres[n]? =some t):(qwc s)[n]? =some (qn6 n t,(t.queue.length:Int),t.deficit):=by
 unfold qwc;rw[List.getElem?_mapIdx,h];rfl
theorem qwf(hs:s.Ok):LanesOk (qwc s):=by
 intro x hx;unfold qwc at hx;obtain⟨i,hi,rfl⟩:=List.mem_mapIdx.1 hx;have o:=hs.tres (s.tres[i]) (List.getElem_mem hi);have hw:=o.weight;have hq:=o.queue;have hd:=o.deficit;refine⟨?_,by dsimp only;omega,by dsimp only;omega⟩;dsimp only;unfold qn6;split<;>omega
theorem qwg(hs:s.Ok)(h:qn5 (s.tres.mapIdx fun i t=>qn6 i t) s.lane.toNat=some k)(ht:s.tres[k]? =some t):
 qw9 (qwc s) s.lane.toNat c.quantum=(((k:Int),(takeN c t:Int),(((k+1) % 16:Nat):Int)),(qwc s).set k (qn6 k t,(t.queue.length:Int) - takeN c t,(seqT c t).deficit)):=by
 obtain⟨h0,t1,ht1,hr,hw⟩:=qu0 h;have e:t1=t:=by
  rw[ht]at ht1;injection ht1 with h;exact h.symm
 subst e;have hlw:qn6 k t1=t1.weight:=by
  unfold qn6;rw[if_neg (by rw[hr];simp;exact h0)]
 have hlen:(qwc s).length=16:=by unfold qwc;rw[List.length_mapIdx,hs.tresn]
 rw[qwb (by rw[qwd];exact h) (qwe ht),hlen];dsimp only;rw[hlw];have ht0:((takeN c t1:Nat):Int)=max (min (t1.deficit+min t1.weight 4*min (max c.quantum 1) 2) t1.queue.length) 0:=by
  unfold takeN;rw[Int.toNat_of_nonneg zo]
 rw[←ht0];have hle:takeN c t1≤t1.queue.length:=by unfold takeN;omega
 have hdf:(seqT c t1).deficit=if (t1.queue.length:Int) - takeN c t1=0 then 0 else t1.deficit+min t1.weight 4*min (max c.quantum 1) 2 - takeN c t1:=by
  unfold seqT;dsimp only;by_cases hz:takeN c t1=t1.queue.length
  · rw[if_pos (List.drop_of_length_le zo),if_pos zo]
  rw[if_neg (by
   intro e;have:=congrArg List.length e;rw[tBk]at this;simp at this;omega),if_neg zo]
 rw[hdf]
end Go.Proofs.YthomgopipiomhaaGreatDoor
