/-
  Lemmas for ModelNumbers, shortened by program.
-/
import Derived.Test.YthomgopipiomhaaGreatDoorBMN07
import Derived.Great.BuildSlice
namespace Go.Proofs.YthomgopipiomhaaGreatDoor
set_option linter.unusedVariables false
set_option linter.unusedSimpArgs false
set_option maxRecDepth 100000
set_option maxHeartbeats 32000000
section
open Go.RowKit
def tenv (x:Ten):List Value:=[.bool x.on,.int .u32 (x.rate:Int),.int .u32 (x.burst:Int),.int .u32 (x.tok:Int),.int .u32 (x.store:Int),.int .u32 (x.used:Int)]
def grav (g:Gra):List Value:=[.int .i64 g.tenant,.int .i64 g.role,.int .u64 (g.expires:Int),.bool g.revoked]
def trev (t:Tre)(vd vl vq:Value):List Value:=.int .i64 t.state::.int .i64 t.tenant::.int .i64 t.weight::.int .i64 t.deficit::vd::vl::vq::hdv t.hd
def drwv (l:List Nat):List Value:=l.map fun n:Nat=>.int .u32 (n:Int)
theorem qmq {α:Type}{sz:Nat}:∀{L:List (List α)} {n j:Nat} {c:List α},(∀c∈L,c.length=sz)→L[n]? =some c→j<sz→L.flatten[n*sz+j]? =c[j]?
 |[],n,j,c,_,h,_=>by simp at h
 |x::L,0,j,c,hl,h,hj=>by
  have hx:=hl x (by simp);simp only[List.getElem?_cons_zero,Option.some.injEq]at h;subst h;rw[List.flatten_cons,Nat.zero_mul,Nat.zero_add,List.getElem?_append_left (by omega)]
 |x::L,n+1,j,c,hl,h,hj=>by
  have hx:=hl x (by simp);simp only[List.getElem?_cons_succ]at h;rw[List.flatten_cons,Nat.succ_mul,List.getElem?_append_right (by omega),show n*sz+sz+j - x.length=n*sz+j by omega];exact qmq (fun c hc=>hl c (List.mem_cons_of_mem _ hc)) h hj
theorem qmr {α:Type}{sz:Nat}:∀{L:List (List α)},(∀c∈L,c.length=sz)→L.flatten.length=L.length*sz
 |[],_=>by simp
 |x::L,hl=>by
  rw[List.flatten_cons,tA6,hl x (by simp),qmr (fun c hc=>hl c (List.mem_cons_of_mem _ hc)),List.length_cons,Nat.succ_mul];omega
theorem qms {sz:Nat}:∀{L:List (List Value)} {n j:Nat} (cs:List Value),(∀c∈L,c.length=sz)→n<L.length→j+cs.length≤sz→over L.flatten (n*sz+j) cs=(L.modify n fun c=>over c j cs).flatten
 |[],n,j,cs,_,h,_=>by simp at h
 |x::L,0,j,cs,hl,h,hj=>by
  have hx:=hl x (by simp);rw[List.modify_zero_cons,List.flatten_cons,List.flatten_cons,Nat.zero_mul,Nat.zero_add];unfold over;rw[List.take_append_of_le_length (by omega),List.drop_append_of_le_length (by omega)];simp only[List.append_assoc]
 |x::L,n+1,j,cs,hl,h,hj=>by
  have hx:=hl x (by simp);rw[List.modify_succ_cons,List.flatten_cons,List.flatten_cons,←qms cs (fun c hc=>hl c (List.mem_cons_of_mem _ hc)) (by simpa using h) hj];unfold over;rw[Nat.succ_mul,show n*sz+sz+j=x.length+(n*sz+j) by omega,List.take_length_add_append,show x.length+(n*sz+j)+cs.length=x.length+(n*sz+j+cs.length) by omega,List.drop_length_add_append,List.append_assoc]
theorem qmt (l:List Value)(i:Nat)(u:Value)(h:i<l.length):over l i [u]=l.set i u:=by
 unfold over;rw[List.set_eq_take_append_cons_drop,if_pos h];simp
theorem qmu {l sp cs:List Value}{o:Nat}(h:o+cs.length≤l.length):over (l++sp) o cs=over l o cs++sp:=by
 unfold over;rw[List.take_append_of_le_length (by omega),List.drop_append_of_le_length (by omega)];simp only[List.append_assoc]
theorem qmv {α β:Type}(f:α→β)(g:α→α)(h:β→β):∀(l:List α) (n:Nat),(∀x,l[n]? =some x→h (f x)=f (g x))→(l.map f).modify n h=(l.modify n g).map f
 |[],n,_=>by simp
 |x::l,0,hx=>by simp[hx x rfl]
 |x::l,n+1,hx=>by simp[qmv f g h l n (fun y hy=>hx y (by simpa using hy))]
def TopAt (w:World)(col:Col)(k:Nat)(e:TypeId)(g c size n:Nat)(xs:List Value):Prop:=
 col g=k∧∃sp:List Value,Blk w g e (xs++sp).toArray∧xs.length=n*size∧n≤c∧c≤maxLen∧xs.length+sp.length=c*size
section
variable {w w' : World} {col col' : Col} {k : Nat} {e : TypeId} {g c size n : Nat} {xs : List Value}
theorem TopAt.keep (h:TopAt w col k e g c size n xs)(hk:KeepsCol k w col w' col'):TopAt w' col' k e g c size n xs:=by
 obtain⟨hc,sp,hb,rest⟩:=h;obtain⟨h1,h2⟩:=hk.2 g hb.lt hc;exact⟨h2,sp,h1.trans hb,rest⟩
theorem TopAt.lt (h:TopAt w col k e g c size n xs):g<w.heap.size:=by obtain⟨hc,sp,hb,_⟩:=h;exact hb.lt
theorem TopAt.cell (h:TopAt w col k e g c size n xs){i:Nat}{u:Value}(hu:xs[i]? =some u):w.cell? ⟨g,i,none⟩=some u:=by
 obtain⟨hc,sp,hb,_⟩:=h;obtain⟨hi,_⟩:=List.getElem?_eq_some_iff.1 hu;rw[hb.cell,tA3,List.getElem?_append_left hi];exact hu
theorem TopAt.frozen (h:TopAt w col k e g c size n xs)(i:Nat):w.frozen? ⟨g,i,none⟩=false:=by obtain⟨hc,sp,hb,_⟩:=h;exact hb.frozen i
theorem TopAt.reads (h:TopAt w col k e g c size n xs):Reads w w.heap.size size (some ⟨g,0,none⟩) n xs:=
 ⟨h.2.elim fun _ h=>h.2.1,fun _=>⟨_,rfl,h.lt,fun j u hu=>by rw[Addr.add_mid];exact h.cell (by simpa using hu)⟩⟩
theorem TopAt.over (h:TopAt w col k e g c size n xs){o:Nat}{cs:List Value}(hl:o+cs.length≤xs.length):TopAt (w.setCells g o cs) col k e g c size n (over xs o cs):=by
 obtain⟨hc,sp,hb,hxl,hn,hm,hsp⟩:=h;have h2:=qmi cs o w _ hb (by rw[tA6];omega);rw[qmu hl]at h2;exact⟨hc,sp,h2,by rw[qmh hl];exact hxl,hn,hm,by rw[qmh hl];exact hsp⟩
theorem TopAt.set1 (h:TopAt w col k e g c size n xs){o:Nat}(u:Value)(hl:o<xs.length):TopAt (w.setCell ⟨g,o,none⟩ u) col k e g c size n (xs.set o u):=by
 have:=h.over (o:=o) (cs:=[u]) (by simp;omega);rwa[qmt _ _ _ hl]at this
theorem TopAt.far (h:TopAt w col k e g c size n xs){p:Addr}(hp:g≠p.block)(u:Value):TopAt (w.setCell p u) col k e g c size n xs:=by
 obtain⟨hc,sp,hb,rest⟩:=h;exact⟨hc,sp,hb.far hp u,rest⟩
theorem TopAt.there (h:TopAt w col k e g c size n xs){o m:Nat}(hl:o+m≤xs.length):w.there g o m:=fun j hj=>by
 obtain⟨u,hu⟩:∃u,xs[o+j]? =some u:=⟨_,tA7 (by omega)⟩;exact⟨by rw[h.cell hu];simp,h.frozen _⟩
end
structure Loc where
 tg:Nat
 tc:Nat
 rg:Nat
 rc:Nat
 gg:Nat
 gc:Nat
 sa:Option Addr
 sn:Nat
 sc:Nat
def TreAt (w:World)(col:Col)(i:Nat)(cs:List Value)(t:Tre):Prop:=
 ∃vd vl vq,cs=trev t vd vl vq∧RowC w col (10+3*i) vd 22 1 t.draws.length (drwv t.draws)∧TextsC w col (11+3*i) vl t.leaves∧TextsC w col (12+3*i) vq t.queue
def TrsAt (w:World)(col:Col)(css:List (List Value))(l:List Tre):Prop:=css.length=l.length∧∀(i:Nat) (t:Tre),l[i]? =some t→∃cs,css[i]? =some cs∧TreAt w col i cs t
structure StAt (tt rt gt:TypeId)(w:World)(col:Col)(k:Nat)(L:Loc)(css:List (List Value))(s:Sta):Prop where
 tens:TopAt w col k tt L.tg L.tc 6 16 (s.tens.flatMap tenv)
 tres:TopAt w col (k+1) rt L.rg L.rc 75 16 css.flatten
 gras:TopAt w col (k+2) gt L.gg L.gc 4 s.gras.length (s.gras.flatMap grav)
 trs:TrsAt w col css s.tres
section
variable {w w' : World} {col col' : Col} {i : Nat} {cs : List Value} {css : List (List Value)} {t : Tre} {l : List Tre}
theorem TreAt.keep (h:TreAt w col i cs t)(hk:∀k,k=5∨10≤k→KeepsCol k w col w' col'):TreAt w' col' i cs t:=by
 obtain⟨vd,vl,vq,e,h1,h2,h3⟩:=h;exact⟨vd,vl,vq,e,h1.keep (hk _ (.inr (by omega))),h2.keep (hk _ (.inr (by omega))) (hk _ (.inl rfl)),h3.keep (hk _ (.inr (by omega))) (hk _ (.inl rfl))⟩
theorem TrsAt.keep (h:TrsAt w col css l)(hk:∀k,k=5∨10≤k→KeepsCol k w col w' col'):TrsAt w' col' css l:=
 ⟨h.1,fun i t ht=>by
  obtain⟨cs,h1,h2⟩:=h.2 i t ht;exact⟨cs,h1,h2.keep hk⟩⟩
theorem StAt.keep {tt rt gt:TypeId}{k:Nat}{L:Loc}{s:Sta}(h:StAt tt rt gt w col k L css s)(h1:KeepsCol k w col w' col')(h2:KeepsCol (k+1) w col w' col')(h3:KeepsCol (k+2) w col w' col')(hk:∀k,k=5∨10≤k→KeepsCol k w col w' col'):StAt tt rt gt w' col' k L css s:=
 ⟨h.tens.keep h1,h.tres.keep h2,h.gras.keep h3,h.trs.keep hk⟩
theorem qmw {h:Hd}(hk:h.Ok):(hdv h).length=68:=by
 unfold hdv;simp only[List.length_cons,tA6,qat,hk.rootl,hk.tagl]
theorem qmx {t:Tre}(vd vl vq:Value)(h:t.hd.Ok):(trev t vd vl vq).length=75:=by
 unfold trev;simp only[List.length_cons,qmw h]
theorem TrsAt.lens (h:TrsAt w col css l)(hk:∀t∈l,t.hd.Ok):∀c∈css,c.length=75:=by
 intro c hc;obtain⟨i,hi,rfl⟩:=List.getElem_of_mem hc;have hi':i<l.length:=by rw[←h.1];exact hi
 obtain⟨cs,h1,vd,vl,vq,e,_⟩:=h.2 i l[i] (tA7 hi');rw[tA7 hi]at h1;injection h1 with h1;rw[h1,e];exact qmx _ _ _ (hk _ (List.getElem_mem _))
theorem qmy {l:List Ten}{n j:Nat}{x:Ten}(h:l[n]? =some x)(hj:j<6):(l.flatMap tenv)[n*6+j]? =(tenv x)[j]? :=by
 rw[List.flatMap_def];exact qmq (fun c hc=>by obtain⟨y,_,rfl⟩:=List.mem_map.1 hc;rfl) (by rw[List.getElem?_map,h];rfl) hj
theorem qmz {l:List Gra}{n j:Nat}{x:Gra}(h:l[n]? =some x)(hj:j<4):(l.flatMap grav)[n*4+j]? =(grav x)[j]? :=by
 rw[List.flatMap_def];exact qmq (fun c hc=>by obtain⟨y,_,rfl⟩:=List.mem_map.1 hc;rfl) (by rw[List.getElem?_map,h];rfl) hj
theorem qn1 (l:List Ten):(l.flatMap tenv).length=l.length*6:=by
 rw[List.flatMap_def,qmr (sz:=6) (fun c hc=>by obtain⟨y,_,rfl⟩:=List.mem_map.1 hc;rfl),List.length_map]
theorem qn3 (l:List Gra):(l.flatMap grav).length=l.length*4:=by
 rw[List.flatMap_def,qmr (sz:=4) (fun c hc=>by obtain⟨y,_,rfl⟩:=List.mem_map.1 hc;rfl),List.length_map]
theorem qn4 {l:List Ten}{n j:Nat}{cs:List Value}{f:Ten→Ten}(hn:n<l.length)(hj:j+cs.length≤6)(hf:∀x,l[n]? =some x→over (tenv x) j cs=tenv (f x)):over (l.flatMap tenv) (n*6+j) cs=(l.modify n f).flatMap tenv:=by
 rw[List.flatMap_def,List.flatMap_def,qms cs (fun c hc=>by obtain⟨y,_,rfl⟩:=List.mem_map.1 hc;rfl) (by simpa using hn) hj,qmv _ f _ _ _ hf]
theorem qn5 {l:List Gra}{n j:Nat}{cs:List Value}{f:Gra→Gra}(hn:n<l.length)(hj:j+cs.length≤4)(hf:∀x,l[n]? =some x→over (grav x) j cs=grav (f x)):over (l.flatMap grav) (n*4+j) cs=(l.modify n f).flatMap grav:=by
 rw[List.flatMap_def,List.flatMap_def,qms cs (fun c hc=>by obtain⟨y,_,rfl⟩:=List.mem_map.1 hc;rfl) (by simpa using hn) hj,qmv _ f _ _ _ hf]
end
end
structure Cfg.Ok (c:Cfg):Prop where
 w1:1≤c.width
 w2:c.width≤32
 q1:1≤c.quantum
 q2:c.quantum≤2
 store:c.store≤32768
 seed:c.seed.length≤64
 seedb:∀x∈c.seed,x<256
structure Ten.Ok (x:Ten):Prop where
 rate:x.rate≤1048576
 burst:x.burst≤1048576
 tok:x.tok≤x.burst
 store:x.store<4294967296
 used:x.used<4294967296
def LeafOk (b:List Nat):Prop:=b.length≤400∧∀x∈b,x<256
structure Tre.Ok (t:Tre):Prop where
 state:0≤t.state∧t.state≤4
 tenant:0≤t.tenant∧t.tenant<16
 weight:0≤t.weight∧t.weight≤4
 deficit:t.deficit=0
 live:t.state≠0→1≤t.weight∧t.draws≠[]
 draws:t.draws.length≤32
 drawb:∀x∈t.draws,x<4294967296
 leaves:t.leaves.length+t.queue.length≤1024
 leafb:∀b∈t.leaves,LeafOk b
 queue:t.queue.length≤64
 queueb:∀b∈t.queue,LeafOk b
 hd:t.hd.Ok
 hdt:0≤t.hd.tree∧t.hd.tree<16
 hde:0≤t.hd.epoch∧t.hd.epoch<32
 hds:t.hd.size≤t.leaves.length
structure Gra.Ok (g:Gra):Prop where
 tenant:0≤g.tenant∧g.tenant<16
 role:1≤g.role∧g.role≤4
 expires:g.expires<18446744073709551616
structure Sta.Ok (s:Sta):Prop where
 clock:s.clock<18446744073709551616
 draw:s.draw<4294967296
 lane:0≤s.lane∧s.lane<16
 tensn:s.tens.length=16
 tresn:s.tres.length=16
 grasn:s.gras.length≤64
 tens:∀x∈s.tens,x.Ok
 tres:∀t∈s.tres,t.Ok
 gras:∀g∈s.gras,g.Ok
 owner:s.gras[0]? =some ⟨0,4,18446744073709551615,false⟩
 first:∃t,s.tres[0]? =some t∧t.state=1∧t.queue=[]
theorem qn6 {α:Type}{f:α→α}:∀{l:List α} {n:Nat} {x:α},x∈l.modify n f→x∈l∨∃y,l[n]? =some y∧x=f y
 |[],n,x,h=>by simp at h
 |a::l,0,x,h=>by
  rw[List.modify_zero_cons]at h;rcases List.mem_cons.1 h with rfl|h
  · exact .inr ⟨a,rfl,rfl⟩
  exact .inl (List.mem_cons_of_mem _ h)
 |a::l,n+1,x,h=>by
  rw[List.modify_succ_cons]at h;rcases List.mem_cons.1 h with rfl|h
  · exact .inl (by simp)
  rcases qn6 h with h|⟨y,h1,h2⟩
  · exact .inl (List.mem_cons_of_mem _ h)
  exact .inr ⟨y,by simpa using h1,h2⟩
theorem qn7 {α:Type}{P:α→Prop}{f:α→α}{l:List α}{n:Nat}(h:∀x∈l,P x)(hf:∀x,l[n]? =some x→P x→P (f x)):∀x∈l.modify n f,P x:=by
 intro x hx;rcases qn6 hx with h1|⟨y,h1,rfl⟩
 · exact h x h1
 exact hf y h1 (h y (List.mem_of_getElem? h1))
theorem Sta.Ok.tre {s:Sta}(h:s.Ok){n:Nat}{t:Tre}(ht:s.tres[n]? =some t):t.Ok:=h.tres t (List.mem_of_getElem? ht)
theorem Sta.Ok.ten {s:Sta}(h:s.Ok){n:Nat}{x:Ten}(hx:s.tens[n]? =some x):x.Ok:=h.tens x (List.mem_of_getElem? hx)
theorem Sta.Ok.gra {s:Sta}(h:s.Ok){n:Nat}{g:Gra}(hg:s.gras[n]? =some g):g.Ok:=h.gras g (List.mem_of_getElem? hg)
theorem Ten.zero_ok:Ten.zero.Ok:=⟨by decide,by decide,by decide,by decide,by decide⟩
theorem Tre.zero_ok:Tre.zero.Ok:=
 ⟨by decide,by decide,by decide,rfl,fun h=>absurd rfl h,by decide,fun x h=>(nomatch h),by decide,fun x h=>(nomatch h),by decide,fun x h=>(nomatch h),Hd.zero_Ok,by decide,by decide,by decide⟩
theorem Sta.Ok.setT {s:Sta}(h:s.Ok){n:Nat}{f:Tre→Tre}(hf:∀t,s.tres[n]? =some t→t.Ok→(f t).Ok)(h0:n=0→∀t,s.tres[0]? =some t→t.state=1→t.queue=[]→(f t).state=1∧(f t).queue=[]):(s.setT n f).Ok:=by
 refine⟨h.clock,h.draw,h.lane,h.tensn,by simp[Sta.setT,h.tresn],h.grasn,h.tens,qn7 h.tres hf,h.gras,h.owner,?_⟩;obtain⟨t,h1,h2,h3⟩:=h.first;by_cases e:n=0
 · subst e
   obtain⟨h4,h5⟩:=h0 rfl t h1 h2 h3;exact⟨f t,by simp[Sta.setT,List.getElem?_modify,h1],h4,h5⟩
 exact⟨t,by simp[Sta.setT,List.getElem?_modify,h1,e],h2,h3⟩
theorem Sta.Ok.setX {s:Sta}(h:s.Ok){n:Nat}{f:Ten→Ten}(hf:∀x,s.tens[n]? =some x→x.Ok→(f x).Ok):(s.setX n f).Ok:=
 ⟨h.clock,h.draw,h.lane,by simp[Sta.setX,h.tensn],h.tresn,h.grasn,qn7 h.tens hf,h.tres,h.gras,h.owner,h.first⟩
theorem qn8 (w:Nat)(b:List Nat)(hw:w≤32):(sumH w b).length=32:=qe9 (qj5 b) hw
theorem qn9 (w:Nat)(b:List Nat):∀x∈sumH w b,x<256:=qea (qj6 b)
theorem qna (w:Nat)(hw:w≤32):∀(l:List (List Nat)),(qdx w l).length=32∧∀x∈qdx w l,x<256:=by
 intro l;by_cases h:l.length≤1
 · match l,h with
   |[],_=>rw[qdy];exact⟨qn8 _ _ hw,qn9 _ _⟩
   |[b],_=>rw[qdz];exact⟨qn8 _ _ hw,qn9 _ _⟩
   |_::_::_,h=>simp at h
 rw[qe1 w (by omega)];exact⟨qn8 _ _ hw,qn9 _ _⟩
theorem qnb (c:Cfg)(clock n:Nat)(t:Tre)(hc:clock<18446744073709551616)(ht:t.leaves.length<18446744073709551616):(pubT c clock n t).Ok:=by
 obtain⟨h1,h2⟩:=qna (cutW c.width) (qdt _).2 t.leaves;exact⟨ht,hc,h1,h2,qjt _ _,qju _ _⟩
theorem Tre.Ok.pub {t:Tre}(h:t.Ok)(c:Cfg)(clock n:Nat)(hc:clock<18446744073709551616)(hn:n<16):{t with hd:=pubT c clock n t:Tre}.Ok:=by
 have hd:=h.draws;have hl:=h.leaves;exact {h with hd:=qnb c clock n t hc (by omega),hdt:=⟨by simp[pubT,signed];try omega,by simp[pubT,signed];try omega⟩,hde:=⟨by simp[pubT,signed];try omega,by simp[pubT,signed];try omega⟩,hds:=by simp[pubT,signed]}
theorem Sta.Ok.pub {s:Sta}(h:s.Ok)(c:Cfg){n:Nat}(hn:n<16):(s.pub c n).Ok:=
 h.setT (n:=n) (f:=fun t=>{t with hd:=pubT c s.clock n t}) (fun t _ ht=>ht.pub c _ n h.clock hn) (fun _ t _ h1 h2=>⟨h1,h2⟩)
section
open Go.RowKit
theorem qnc {α:Type}{l:List α}{n:Nat}{x:α}(f:α→α)(h:l[n]? =some x):(l.modify n f)[n]? =some (f x):=by rw[List.getElem?_modify,h];simp
theorem qnd {α:Type}(l:List α){n i:Nat}(f:α→α)(h:n≠i):(l.modify n f)[i]? =l[i]? :=by rw[List.getElem?_modify];simp[h]
def mdlv (c:Cfg)(s:Sta)(L:Loc):Array Value:=#[.int .i64 c.width,.int .i64 c.quantum,.int .u32 (c.store:Int),.slice L.sa L.sn L.sc,.int .u64 (s.clock:Int),.int .u32 (s.draw:Int),.int .i64 s.lane,.slice (some ⟨L.tg,0,none⟩) 16 L.tc,.slice (some ⟨L.rg,0,none⟩) 16 L.rc,.slice (some ⟨L.gg,0,none⟩) s.gras.length L.gc]
structure Mdl (w:World)(col:Col)(k g:Nat)(c:Cfg)(s:Sta)(L:Loc)(css:List (List Value)):Prop where
 blk:Blk w g 117 (mdlv c s L)
 own:col g=1
 base:3≤w.heap.size∧∀b,b<3→col b=0
 fin:Fin_ col w
 seed:TextC w col (.slice L.sa L.sn L.sc) c.seed
 st:StAt 92 74 66 w col k L css s
def Kind (k:Nat):Prop:=k=2∨k=6
section
variable {w w' : World} {col col' : Col} {k g : Nat} {c : Cfg} {s s' : Sta} {L : Loc} {css : List (List Value)}
theorem Mdl.keep {p:Nat→Bool}(h:Mdl w col k g c s L css)(ht:Turns p w col w' col')(h1:p 1=false)(h5:p 5=false)(hk:p k=false)(hk1:p (k+1)=false)(hk2:p (k+2)=false)(hp:∀i,10≤i→p i=false)(hf:Fin_ col' w'):Mdl w' col' k g c s L css:=
 ⟨(ht.block g h.blk.lt (by rw[h.own];exact h1)).trans h.blk,(ht.same g h.blk.lt).trans h.own,⟨Nat.le_trans h.base.1 ht.size,fun b hb=>(ht.same b (Nat.lt_of_lt_of_le hb h.base.1)).trans (h.base.2 b hb)⟩,hf,h.seed.keep (ht.keeps h5),h.st.keep (ht.keeps hk) (ht.keeps hk1) (ht.keeps hk2) fun i hi=>ht.keeps (by rcases hi with rfl|hi;exact h5;exact hp i hi)⟩
theorem Mdl.call (h:Mdl w col k g c s L css)(hb:Below w.heap.size w w'):Mdl w' col k g c s L css:=
 h.keep (Turns.of_below (fun _=>false) hb) rfl rfl rfl rfl rfl (fun _ _=>rfl) (h.fin.mono hb.size)
theorem Mdl.seedR (h:Mdl w col k g c s L css):Reads w w.heap.size 1 L.sa L.sn (byv c.seed):=by
 obtain⟨A,n,m,e,_,_,hr,_⟩:=h.seed;injection e with e1 e2 e3;subst e1 e2;exact hr
theorem Mdl.own1 (h:Mdl w col k g c s L css)(hk:Kind k)(i:Nat)(u:Value)(e:(mdlv c s L).setIfInBounds i u=mdlv c s' L)(ht:s'.tens=s.tens)(hr:s'.tres=s.tres)(hg:s'.gras=s.gras):Mdl (w.setCell ⟨g,i,none⟩ u) col k g c s' L css:=by
 have hT:Turns (· ==1) w col (w.setCell ⟨g,i,none⟩ u) col:=Turns.setCell u (by simp[h.own]);refine⟨?_,h.own,⟨Nat.le_trans h.base.1 hT.size,h.base.2⟩,h.fin.mono hT.size,h.seed.keep (hT.keeps rfl),?_⟩
 · rw[←e]
   exact h.blk.set_ i u
 have h2:=h.st.keep (w':=w.setCell ⟨g,i,none⟩ u) (col':=col) (hT.keeps (by rcases hk with rfl|rfl<;>rfl)) (hT.keeps (by rcases hk with rfl|rfl<;>rfl)) (hT.keeps (by rcases hk with rfl|rfl<;>rfl)) (fun i hi=>hT.keeps (by simp;omega));exact⟨by rw[ht];exact h2.tens,h2.tres,by rw[hg];exact h2.gras,by rw[hr];exact h2.trs⟩
theorem Mdl.treOver (h:Mdl w col k g c s L css)(hk:Kind k)(hs:s.Ok){n j:Nat}{t:Tre}(ht:s.tres[n]? =some t){cs:List Value}(f:Tre→Tre)(hj:j+cs.length≤75)
 (hf:∀vd vl vq,over (trev t vd vl vq) j cs=trev (f t) vd vl vq)(hd:(f t).draws=t.draws)(hl:(f t).leaves=t.leaves)(hq:(f t).queue=t.queue):
 Mdl (w.setCells L.rg (n*75+j) cs) col k g c (s.setT n f) L (css.modify n fun x=>over x j cs):=by
 obtain⟨hn,_⟩:=List.getElem?_eq_some_iff.1 ht;have hlen:=h.st.trs.lens (fun t ht=>(hs.tres t ht).hd);have hcl:css.length=16:=by rw[h.st.trs.1,hs.tresn]
 have hn16:n<16:=by rw[←hs.tresn];exact hn
 have hfl:css.flatten.length=1200:=by rw[qmr hlen,hcl]
 have hT:Turns (· ==k+1) w col (w.setCells L.rg (n*75+j) cs) col:=Turns.setCells cs (by simp[h.st.tres.1]);have k1:∀i,i≠k+1→KeepsCol i w col (w.setCells L.rg (n*75+j) cs) col:=fun i hi=>hT.keeps (by simpa using hi)
 have hne:g≠L.rg:=by
  intro e;have a:=h.own;rw[e,h.st.tres.1]at a;rcases hk with rfl|rfl<;>cases a
 refine⟨?_,h.own,⟨Nat.le_trans h.base.1 hT.size,h.base.2⟩,h.fin.mono hT.size,h.seed.keep (k1 5 (by rcases hk with rfl|rfl<;>decide)),?_,?_,?_,?_⟩
 · exact h.blk.grown (qmj L.rg cs _ w) (by intro e;injection e with e;exact hne e)
 · exact h.st.tens.keep (k1 k (by omega))
 · have:=h.st.tres.over (o:=n*75+j) (cs:=cs) (by rw[hfl];omega)
   rwa[qms cs hlen (by rw[hcl];exact hn16) hj]at this
 · exact h.st.gras.keep (k1 (k+2) (by omega))
 refine⟨by rw[List.length_modify,h.st.trs.1];simp[Sta.setT],fun i t' ht'=>?_⟩;by_cases e:n=i
 ·
  subst e;rw[show (s.setT n f).tres=s.tres.modify n f from rfl,qnc f ht]at ht';injection ht' with ht';subst ht';obtain⟨c0,h1,vd,vl,vq,e1,r1,r2,r3⟩:=h.st.trs.2 n t ht;refine⟨over c0 j cs,qnc _ h1,vd,vl,vq,by rw[e1];exact hf vd vl vq,?_,?_,?_⟩
  · rw[hd];exact r1.keep (k1 _ (by rcases hk with rfl|rfl<;>omega))
  · rw[hl];exact r2.keep (k1 _ (by rcases hk with rfl|rfl<;>omega)) (k1 5 (by rcases hk with rfl|rfl<;>decide))
  rw[hq];exact r3.keep (k1 _ (by rcases hk with rfl|rfl<;>omega)) (k1 5 (by rcases hk with rfl|rfl<;>decide))
 rw[show (s.setT n f).tres=s.tres.modify n f from rfl,qnd _ f e]at ht';obtain⟨c0,h1,h2⟩:=h.st.trs.2 i t' ht';exact⟨c0,by rw[qnd _ _ e];exact h1,h2.keep fun i hi=>k1 i (by rcases hk with rfl|rfl<;>omega)⟩
theorem Mdl.tenOver (h:Mdl w col k g c s L css)(hk:Kind k)(hs:s.Ok){n j:Nat}{x:Ten}(hx:s.tens[n]? =some x){cs:List Value}(f:Ten→Ten)(hj:j+cs.length≤6)
 (hf:over (tenv x) j cs=tenv (f x)):Mdl (w.setCells L.tg (n*6+j) cs) col k g c (s.setX n f) L css:=by
 obtain⟨hn,_⟩:=List.getElem?_eq_some_iff.1 hx;have hn16:n<16:=by rw[←hs.tensn];exact hn
 have hT:Turns (· ==k) w col (w.setCells L.tg (n*6+j) cs) col:=Turns.setCells cs (by simp[h.st.tens.1]);have k1:∀i,i≠k→KeepsCol i w col (w.setCells L.tg (n*6+j) cs) col:=fun i hi=>hT.keeps (by simpa using hi)
 have hne:g≠L.tg:=by
  intro e;have a:=h.own;rw[e,h.st.tens.1]at a;rcases hk with rfl|rfl<;>cases a
 refine⟨?_,h.own,⟨Nat.le_trans h.base.1 hT.size,h.base.2⟩,h.fin.mono hT.size,h.seed.keep (k1 5 (by rcases hk with rfl|rfl<;>decide)),?_,h.st.tres.keep (k1 _ (by omega)),h.st.gras.keep (k1 _ (by omega)),h.st.trs.keep fun i hi=>k1 i (by rcases hk with rfl|rfl<;>omega)⟩
 · exact h.blk.grown (qmj L.tg cs _ w) (by intro e;injection e with e;exact hne e)
 have:=h.st.tens.over (o:=n*6+j) (cs:=cs) (by rw[qn1,hs.tensn];omega);rwa[qn4 hn hj (fun y hy=>by rw[hx]at hy;injection hy with hy;subst hy;exact hf)]at this
theorem Mdl.graOver (h:Mdl w col k g c s L css)(hk:Kind k){n j:Nat}{x:Gra}(hx:s.gras[n]? =some x){cs:List Value}(f:Gra→Gra)(hj:j+cs.length≤4)
 (hf:over (grav x) j cs=grav (f x)):Mdl (w.setCells L.gg (n*4+j) cs) col k g c {s with gras:=s.gras.modify n f} L css:=by
 obtain⟨hn,_⟩:=List.getElem?_eq_some_iff.1 hx;have hT:Turns (· ==k+2) w col (w.setCells L.gg (n*4+j) cs) col:=Turns.setCells cs (by simp[h.st.gras.1]);have k1:∀i,i≠k+2→KeepsCol i w col (w.setCells L.gg (n*4+j) cs) col:=fun i hi=>hT.keeps (by simpa using hi)
 have hne:g≠L.gg:=by
  intro e;have a:=h.own;rw[e,h.st.gras.1]at a;rcases hk with rfl|rfl<;>cases a
 refine⟨?_,h.own,⟨Nat.le_trans h.base.1 hT.size,h.base.2⟩,h.fin.mono hT.size,h.seed.keep (k1 5 (by rcases hk with rfl|rfl<;>decide)),h.st.tens.keep (k1 _ (by omega)),h.st.tres.keep (k1 _ (by omega)),?_,h.st.trs.keep fun i hi=>k1 i (by rcases hk with rfl|rfl<;>omega)⟩
 · have hb:=h.blk.grown (qmj L.gg cs (n*4+j) w) (by intro e;injection e with e;exact hne e)
   unfold mdlv at hb ⊢;simpa using hb
 have:=h.st.gras.over (o:=n*4+j) (cs:=cs) (by rw[qn3];omega);rw[qn5 hn hj (fun y hy=>by rw[hx]at hy;injection hy with hy;subst hy;exact hf)]at this;simpa using this
theorem Mdl.stRange (h:Mdl w col k g c s L css):w.rangeAt g 4 [.int .u64 (s.clock:Int),.int .u32 (s.draw:Int),.int .i64 s.lane,.slice (some ⟨L.tg,0,none⟩) 16 L.tc,.slice (some ⟨L.rg,0,none⟩) 16 L.rc,.slice (some ⟨L.gg,0,none⟩) s.gras.length L.gc]:=
 qap (l:=(mdlv c s L).toList) (by simpa using h.blk) 4 _ (fun j u hu=>by
  match j,hu with
  |0,hu=>exact hu
  |1,hu=>exact hu
  |2,hu=>exact hu
  |3,hu=>exact hu
  |4,hu=>exact hu
  |5,hu=>exact hu
  |j+6,hu=>simp at hu)
theorem Mdl.cfgRange (h:Mdl w col k g c s L css):w.rangeAt g 0 [.int .i64 c.width,.int .i64 c.quantum,.int .u32 (c.store:Int),.slice L.sa L.sn L.sc]:=
 qap (l:=(mdlv c s L).toList) (by simpa using h.blk) 0 _ (fun j u hu=>by
  match j,hu with
  |0,hu=>exact hu
  |1,hu=>exact hu
  |2,hu=>exact hu
  |3,hu=>exact hu
  |j+4,hu=>simp at hu)
theorem Mdl.c0 (h:Mdl w col k g c s L css):w.cell? ⟨g,0,none⟩=some (.int .i64 c.width):=h.blk.cell 0
theorem Mdl.c1 (h:Mdl w col k g c s L css):w.cell? ⟨g,1,none⟩=some (.int .i64 c.quantum):=h.blk.cell 1
theorem Mdl.c2 (h:Mdl w col k g c s L css):w.cell? ⟨g,2,none⟩=some (.int .u32 (c.store:Int)):=h.blk.cell 2
theorem Mdl.c4 (h:Mdl w col k g c s L css):w.cell? ⟨g,4,none⟩=some (.int .u64 (s.clock:Int)):=h.blk.cell 4
theorem Mdl.c5 (h:Mdl w col k g c s L css):w.cell? ⟨g,5,none⟩=some (.int .u32 (s.draw:Int)):=h.blk.cell 5
theorem Mdl.c6 (h:Mdl w col k g c s L css):w.cell? ⟨g,6,none⟩=some (.int .i64 s.lane):=h.blk.cell 6
theorem Mdl.c7 (h:Mdl w col k g c s L css):w.cell? ⟨g,7,none⟩=some (.slice (some ⟨L.tg,0,none⟩) 16 L.tc):=h.blk.cell 7
theorem Mdl.c8 (h:Mdl w col k g c s L css):w.cell? ⟨g,8,none⟩=some (.slice (some ⟨L.rg,0,none⟩) 16 L.rc):=h.blk.cell 8
theorem Mdl.c9 (h:Mdl w col k g c s L css):w.cell? ⟨g,9,none⟩=some (.slice (some ⟨L.gg,0,none⟩) s.gras.length L.gc):=h.blk.cell 9
theorem Tabs.turns {p:Nat→Bool}(h:Tabs w)(ht:Turns p w col w' col')(h0:p 0=false)(hb:3≤w.heap.size∧∀b,b<3→col b=0):Tabs w':=
 h.below (ht.below (B:=3) (fun b hb'=>by rw[hb.2 b hb'];exact h0) hb.1) (tA4 _)
theorem qne {p:Nat→Bool}{b o:Nat}{v:Value}(h:w.cell? ⟨b,o,none⟩=some v)(ht:Turns p w col w' col')(h0:p (col b)=false):w'.cell? ⟨b,o,none⟩=some v:=
 (World.cell?_of_block (ht.block b (World.block_lt_of_cell? _ _ h) h0)).trans h
end
end
section
open Go
section
variable {P : Program} {Q : Exit → Act → World → Prop} {S : World → Prop} {n : Nat}
theorem qnf {l:List Oper}{i:Nat}{r:List (Nat × Bool)}{a:Act}{w:World}{op:Oper}(hi:nth l i=some op)(hw:Region.wanted op (yielded l.toArray a.tmps)=true)
 (ty:TypeId)(x:Operand)(ho:op.op=.load ty x)(b o:Nat)(hx:a.eval x=.pointer (some ⟨b,o,none⟩))(cs:List Value)(d:TypeDesc)(hS:∀w,S w→w.rangeAt b o cs)
 (hu:P.underlying ty=some d)(hd:d.isRow=true)(hsz:(P.info? ty).map (·.size)=some cs.length)
 (h:qba P l.toArray Q S n r (a.put op.dst (.agg cs.toArray)) w):qba P l.toArray Q S n ((i,false)::r) a w:=
 ⟨op,_,(qb9 l i).symm.trans hi,yieldsIf_load_mid hw ty x ho b o hx cs d hS hu hd hsz,h⟩
end
end
section
open Go.RowKit
theorem qng:∀x∈qlp,x<256:=by decide
theorem qnh:∀x∈qlo,x<256:=by decide
theorem qni:∀x∈qlq,x<256:=by decide
theorem qnj:qb0 1=1:=by decide
theorem qnk:qb0 4=4:=by decide
theorem qnl:qb0 8=8:=by decide
theorem qnm (seed:List Nat)(tree epoch draw:Nat)(A:Option Addr)(n c:Nat)(w:World)(hr:Reads w w.heap.size 1 A n (byv seed))(hs:∀x∈seed,x<256)(hn:n≤64)(ht:tree<4294967296)(he:epoch<4294967296)(hd:draw<4294967296)(hT:Tabs w):
 Calls Tryz.prog 176 #[.slice A n c,.int .i64 (tree:Int),.int .i64 (epoch:Int),.int .u32 (draw:Int)] w fun e w'=>e=.returned (.agg (byv (keyOf seed tree epoch draw)).toArray)∧Below w.heap.size w w':=by
 obtain⟨W0,hW0⟩:=eqx (w.alloc (.cells zLD 29));have z0:Blk W0 w.heap.size 29 (byv (List.replicate 32 0)).toArray:=by rw[hW0];exact Blk.new w _ _
 have b0:Below w.heap.size w W0:=by rw[hW0];exact qah (tA5 _ _) _
 have q1:IntKind.u64.wrap (tree:Int)=(tree:Int):=IntWalk.u64_in _ (by omega);have q2:IntKind.u64.wrap (epoch:Int)=(epoch:Int):=IntWalk.u64_in _ (by omega);have q3:IntKind.u64.wrap (draw:Int)=(draw:Int):=IntWalk.u64_in _ (by omega);obtain⟨A4,A1,A2,HR,HT,HS,A0⟩:=zh7 hW0 z0 b0 hr hT hs z0.lt;clear hW0 z0 b0 hr hT hs;go_enter Tryz.func176,Tryz.ntmps176
 go_wp2_with fail
 rw[←A4.out];refine(qee W0).mono ?_;rintro e w1 ⟨rfl,h1,b1⟩;obtain⟨hww1,Zw1,Bw1⟩:=zh3 h1 (A1.out.below b1 A1.out.lt) (A2.out.trans (b1.mono A2.out.size));clear h1 b1;go_wp2_with fail
 refine(qed _ _ (tree) 1 _ w1 hww1.out (by omega) (by simp only[tA6,qaw,List.length_nil,qnj,qnk,qnl];omega)).mono ?_;rintro e w2 ⟨rfl,hw2,bw2,-⟩;simp only[qnj,qnk,qnl]at hw2;obtain⟨hww2,Zw2,Bw2⟩:=zh3 hw2 (Zw1.out.below bw2 (by first|exact A0.out|omega)) (Bw1.out.trans (bw2.mono (by first|exact Nat.le_of_lt A0.out|omega)));clear hw2 bw2;go_wp2_with fail
 refine(qed _ _ (epoch) 4 _ w2 hww2.out (by omega) (by simp only[tA6,qaw,List.length_nil,qnj,qnk,qnl];omega)).mono ?_;rintro e w3 ⟨rfl,hw3,bw3,-⟩;simp only[qnj,qnk,qnl]at hw3;obtain⟨hww3,Zw3,Bw3⟩:=zh3 hw3 (Zw2.out.below bw3 (by first|exact A0.out|omega)) (Bw2.out.trans (bw3.mono (by first|exact Nat.le_of_lt A0.out|omega)));clear hw3 bw3;go_wp2_with fail
 refine(qed _ _ (draw) 4 _ w3 hww3.out (by omega) (by simp only[tA6,qaw,List.length_nil,qnj,qnk,qnl];omega)).mono ?_;rintro e w4 ⟨rfl,hw4,bw4,-⟩;simp only[qnj,qnk,qnl]at hw4;obtain⟨hww4,Zw4,Bw4⟩:=zh3 hw4 (Zw3.out.below bw4 (by first|exact A0.out|omega)) (Bw3.out.trans (bw4.mono (by first|exact Nat.le_of_lt A0.out|omega)));clear hw4 bw4;have e4:(w4.alloc (.cells (byv qlp).toArray 5)).heap[w4.heap.size]? =some (.cells (byv qlp).toArray 5 (0,0)):=heap_alloc_new w4 _;go_wp2_with (refine wpList_plain rfl fun K9 hK9=>qjw (.tmp 24) rfl w4.heap.size 3 3 rfl (byv qlp).toArray e4 ?_)
 intro w5 g5 l5;refine hK9 _ _ ?_;have b45:Below w4.heap.size w4 w5:=((tA5 _ _).alloc (tA4 _) (.cells (byv qlp).toArray 5)).grown g5 (by simp) (by intro g hg;injection hg with hg;omega);obtain⟨hww5,Zw5,Bw5,R5⟩:=zh4 (hww4.out.kept_call b45) (Zw4.out.below b45 Zw4.out.lt) (Bw4.out.trans (b45.mono Bw4.out.size)) l5.reads;clear e4 g5 l5 b45;go_wp2_with fail
 refine(qeg _ _ _ _ hww5.out (by simp only[tA6,qaw,List.length_nil];omega)).mono ?_;rintro e w6 ⟨v6,rfl,o6,b6⟩;replace o6:OwnB w6 w5.heap.size v6 (be tree 1++(be epoch 4++be draw 4)):=OwnB.cast (OwnB.of o6) (by simp only[List.append_assoc,List.nil_append]);obtain⟨A6,n6,c6,rfl,nc6,-,r6⟩:=o6.sl;have l6:=qb5 r6;obtain⟨Zw6,Bw6⟩:=zh2 (Zw5.out.below b6 Zw5.out.lt) (Bw5.out.trans (b6.mono Bw5.out.size));obtain⟨w7,hw7⟩:=eqx (w6.alloc (.cells #[.slice (some ⟨w4.heap.size,0,none⟩) 3 3,.slice A6 n6 c6] 23));have b67:Below w6.heap.size w6 w7:=by rw[hw7];exact qah (tA5 _ _) _
 have x0:w7.cell? ⟨w6.heap.size,0,none⟩=some (.slice (some ⟨w4.heap.size,0,none⟩) 3 3):=by rw[hw7];exact(qak w6 _ _ 0).trans rfl
 have x1:w7.cell? ⟨w6.heap.size,1,none⟩=some (.slice A6 n6 c6):=by rw[hw7];exact(qak w6 _ _ 1).trans rfl
 have J:=qj9 w6.heap.size 3 3 n6 c6 _ _ (qlp) (be tree 1++(be epoch 4++be draw 4)) w7 x0 x1 ((R5.out.call b6).call b67) (r6.call b67) (by simp only[tA6,qaw]at l6;omega);obtain⟨HJ,A5,Zw7,Bw7⟩:=zh4 J hw7 (Zw6.out.below b67 Zw6.out.lt) (Bw6.out.trans (b67.mono Bw6.out.size));clear J x0 x1 b67 hw7 b6 r6 l6 nc6 o6;go_wp2_with fail
 rw[←A5.out];refine HJ.out.mono ?_;rintro e w8 ⟨v8,rfl,o8,b8⟩;obtain⟨A8,n8,c8,rfl,nc8,-,r8⟩:=o8.sl;have l8:=qb5 r8;obtain⟨Zw8,Bw8⟩:=zh2 (Zw7.out.below b8 Zw7.out.lt) (Bw7.out.trans (b8.mono Bw7.out.size));have M:=qja n c n8 c8 A A8 seed (qlp++(be tree 1++(be epoch 4++be draw 4))) w8 (HR.out.call Bw8.out) r8 HS.out (by
  intro x hx;simp only[List.mem_append]at hx;rcases hx with h|h|h|h
  · exact qng x h
  · exact qaz _ _ x h
  · exact qaz _ _ x h
  exact qaz _ _ x h) hn (by have:=l8;simp only[tA6,qaw]at this;rw[←this];decide) (HT.out.below Bw8.out HT.out.size)
 have HM:=zh1 M;clear M r8 l8;go_wp2_with fail
 refine HM.out.mono ?_;rintro e w9 ⟨rfl,b9⟩;obtain⟨Z9,B9⟩:=zh2 (Zw8.out.below b9 Zw8.out.lt) (Bw8.out.trans (b9.mono Bw8.out.size));clear b9;obtain⟨X9,hX9⟩:=xeq (byv (mac seed (qlp++(be tree 1++(be epoch 4++be draw 4)))));have lX9:X9.length=32:=by rw[←hX9,qat];exact qjt _ _
 have oX9:∀u∈X9,u.oneCell'=true:=by rw[←hX9];exact qau _
 try rw[hX9]
 obtain⟨A7,A9,AA,A3⟩:=zh4 hX9 lX9 oX9 (zI 29 lX9);clear hX9 lX9 oX9;go_wp2_with (refine zst 29 (.tmp 8) (.tmp 30) (w.heap.size) X9 Z9.out A3.out (by simp[A9.out,qat]) AA.out ?_)
 have z9:=Z9.out.setRow X9.toArray;have AB:=qap z9 0 X9 (fun j u h=>by simpa using h);exact zrt AB Tryz.underlying29 A3.out ⟨(by rw[←A7.out];try rfl),below_setRow B9.out (by first|omega|exact tA4 _) _⟩
def hd0v (h:Hd):List Value:=.int .i64 h.tree::.int .i64 h.epoch::.int .u64 (h.size:Int)::.int .u64 (h.clock:Int)::byv h.root
theorem qnn (h:Hd)(w:World)(ht:0≤h.tree∧h.tree<4294967296)(he:0≤h.epoch∧h.epoch<4294967296)(hs:h.size<18446744073709551616)(hc:h.clock<18446744073709551616)(hl:h.root.length=32):
 Calls Tryz.prog 217 #[.agg (hd0v h).toArray] w fun e w'=>∃v,e=.returned v∧OwnB w' w.heap.size v (qls h)∧Below w.heap.size w w':=by
 obtain⟨tree,ht'⟩:∃k:Nat,h.tree=(k:Int):=⟨h.tree.toNat,by omega⟩;obtain⟨epoch,he'⟩:∃k:Nat,h.epoch=(k:Int):=⟨h.epoch.toNat,by omega⟩;have hres:qls h=qlq++(be tree 1++(be epoch 4++(be h.size 8++(be h.clock 8++h.root)))):=by unfold qls;rw[ht',he',Int.toNat_natCast,Int.toNat_natCast]
 have d0:(hd0v h)[0]? =some (.int .i64 (tree:Int)):=by rw[←ht'];rfl
 have d1:(hd0v h)[1]? =some (.int .i64 (epoch:Int)):=by rw[←he'];rfl
 have d2:(hd0v h)[2]? =some (.int .u64 (h.size:Int)):=rfl;have d3:(hd0v h)[3]? =some (.int .u64 (h.clock:Int)):=rfl;have d4:∀j u,(byv h.root)[j]? =some u→(hd0v h)[4+j]? =some u:=fun j u hu=>by
  unfold hd0v;rw[show 4+j=j+1+1+1+1 by omega,List.getElem?_cons_succ,List.getElem?_cons_succ,List.getElem?_cons_succ,List.getElem?_cons_succ];exact hu
 obtain⟨D,hD⟩:=xeq (hd0v h);obtain⟨size,hsz⟩:=xeq h.size;obtain⟨clock,hck⟩:=xeq h.clock;obtain⟨root,hrt⟩:=xeq h.root;rw[hD]at d0 d1 d2 d3 d4 ⊢;rw[hsz]at d2 hs hres;rw[hck]at d3 hc hres;rw[hrt]at d4 hl hres;rw[hres];rw[ht']at ht;rw[he']at he;clear hD hsz hck hrt hres ht' he';obtain⟨W0,hW0⟩:=eqx (w.alloc (.cells D.toArray 53));have z0:Blk W0 w.heap.size 53 D.toArray:=by rw[hW0];exact Blk.new w _ _
 have b0:Below w.heap.size w W0:=by rw[hW0];exact qah (tA5 _ _) _
 have q1:IntKind.u64.wrap (tree:Int)=(tree:Int):=IntWalk.u64_in _ (by omega);have q2:IntKind.u64.wrap (epoch:Int)=(epoch:Int):=IntWalk.u64_in _ (by omega);have lR:(byv root).length=32:=by rw[qat];exact hl
 obtain⟨A4,A1,A2,A0,D0,D1,D2,D3⟩:=zh8 hW0 z0 b0 z0.lt d0 d1 d2 d3;obtain⟨D4,LR,HL⟩:=zh3 d4 lR hl;clear hW0 z0 b0 d0 d1 d2 d3 d4 lR hl;go_enter Tryz.func217,Tryz.ntmps217
 go_wp2_with fail
 rw[←A4.out];refine(qee W0).mono ?_;rintro e w1 ⟨rfl,h1,b1⟩;obtain⟨hww1,Zw1,Bw1⟩:=zh3 h1 (A1.out.below b1 A1.out.lt) (A2.out.trans (b1.mono A2.out.size));clear h1 b1;have c1:=(Zw1.out.cell 0).trans (show D.toArray[0]? =some (.int .i64 (tree:Int)) by simpa using D0.out);go_wp2_with fail
 refine(qed _ _ (tree) 1 _ w1 hww1.out (by omega) (by simp only[tA6,qaw,List.length_nil,qnj,qnk,qnl];omega)).mono ?_;rintro e w2 ⟨rfl,hw2,bw2,-⟩;simp only[qnj,qnk,qnl]at hw2;obtain⟨hww2,Zw2,Bw2⟩:=zh3 hw2 (Zw1.out.below bw2 (by first|exact A0.out|omega)) (Bw1.out.trans (bw2.mono (by first|exact Nat.le_of_lt A0.out|omega)));clear hw2 bw2;clear c1;have c1:=(Zw2.out.cell 1).trans (show D.toArray[1]? =some (.int .i64 (epoch:Int)) by simpa using D1.out);go_wp2_with fail
 refine(qed _ _ (epoch) 4 _ w2 hww2.out (by omega) (by simp only[tA6,qaw,List.length_nil,qnj,qnk,qnl];omega)).mono ?_;rintro e w3 ⟨rfl,hw3,bw3,-⟩;simp only[qnj,qnk,qnl]at hw3;obtain⟨hww3,Zw3,Bw3⟩:=zh3 hw3 (Zw2.out.below bw3 (by first|exact A0.out|omega)) (Bw2.out.trans (bw3.mono (by first|exact Nat.le_of_lt A0.out|omega)));clear hw3 bw3;clear c1;have c1:=(Zw3.out.cell 2).trans (show D.toArray[2]? =some (.int .u64 (size:Int)) by simpa using D2.out);go_wp2_with fail
 refine(qed _ _ (size) 8 _ w3 hww3.out (by omega) (by simp only[tA6,qaw,List.length_nil,qnj,qnk,qnl];omega)).mono ?_;rintro e w3b ⟨rfl,hw3b,bw3b,-⟩;simp only[qnj,qnk,qnl]at hw3b;obtain⟨hww3b,Zw3b,Bw3b⟩:=zh3 hw3b (Zw3.out.below bw3b (by first|exact A0.out|omega)) (Bw3.out.trans (bw3b.mono (by first|exact Nat.le_of_lt A0.out|omega)));clear hw3b bw3b;clear c1;have c1:=(Zw3b.out.cell 3).trans (show D.toArray[3]? =some (.int .u64 (clock:Int)) by simpa using D3.out);go_wp2_with fail
 refine(qed _ _ (clock) 8 _ w3b hww3b.out (by omega) (by simp only[tA6,qaw,List.length_nil,qnj,qnk,qnl];omega)).mono ?_;rintro e w3c ⟨rfl,hw3c,bw3c,-⟩;simp only[qnj,qnk,qnl]at hw3c;obtain⟨hww3c,Zw3c,Bw3c⟩:=zh3 hw3c (Zw3b.out.below bw3c (by first|exact A0.out|omega)) (Bw3b.out.trans (bw3c.mono (by first|exact Nat.le_of_lt A0.out|omega)));clear hw3c bw3c;clear c1;have A3:=zh1 (qap Zw3c.out 4 (byv root) D4.out);have hI:(Tryz.prog.info? 29).map (·.size)=some (byv root).length:=by rw[LR.out];exact Tryz.dig_info
 obtain⟨V,hV⟩:=xeq (byv root);rw[hV]at hI A3;obtain⟨HI,HV⟩:=zh2 hI hV;clear hI hV;go_wp2_with (refine qaq rfl 29 (.tmp 24) rfl w.heap.size 4 rfl V _ A3.out Tryz.underlying29 rfl HI.out ?_)
 rw[←HV.out];refine(qej _ _ _ root w3c hww3c.out (by simp only[tA6,qaw,List.length_nil];omega) HL.out).mono ?_;rintro e w4 ⟨rfl,h4,b4,-⟩;obtain⟨hww4,Zw4,Bw4⟩:=zh3 h4 (Zw3c.out.below b4 (by first|exact A0.out|omega)) (Bw3c.out.trans (b4.mono (by first|exact Nat.le_of_lt A0.out|omega)));clear h4 b4;have e4:(w4.alloc (.cells (byv qlq).toArray 5)).heap[w4.heap.size]? =some (.cells (byv qlq).toArray 5 (0,0)):=heap_alloc_new w4 _;go_wp2_with (refine wpList_plain rfl fun K9 hK9=>qjw (.tmp 27) rfl w4.heap.size 4 4 rfl (byv qlq).toArray e4 ?_)
 intro w5 g5 l5;refine hK9 _ _ ?_;have b45:Below w4.heap.size w4 w5:=((tA5 _ _).alloc (tA4 _) (.cells (byv qlq).toArray 5)).grown g5 (by simp) (by intro g hg;injection hg with hg;omega);obtain⟨hww5,Zw5,Bw5,R5⟩:=zh4 (hww4.out.kept_call b45) (Zw4.out.below b45 Zw4.out.lt) (Bw4.out.trans (b45.mono Bw4.out.size)) l5.reads;have LR:=HL.out;clear e4 g5 l5 b45;go_wp2_with fail
 refine(qeg _ _ _ _ hww5.out (by simp only[tA6,qaw,List.length_nil];omega)).mono ?_;rintro e w6 ⟨v6,rfl,o6,b6⟩;replace o6:OwnB w6 w5.heap.size v6 (be tree 1++(be epoch 4++(be size 8++(be clock 8++root)))):=OwnB.cast (OwnB.of o6) (by simp only[List.append_assoc,List.nil_append]);obtain⟨A6,n6,c6,rfl,nc6,-,r6⟩:=o6.sl;have l6:=qb5 r6;obtain⟨Zw6,Bw6⟩:=zh2 (Zw5.out.below b6 Zw5.out.lt) (Bw5.out.trans (b6.mono Bw5.out.size));obtain⟨w7,hw7⟩:=eqx (w6.alloc (.cells #[.slice (some ⟨w4.heap.size,0,none⟩) 4 4,.slice A6 n6 c6] 23));have b67:Below w6.heap.size w6 w7:=by rw[hw7];exact qah (tA5 _ _) _
 have x0:w7.cell? ⟨w6.heap.size,0,none⟩=some (.slice (some ⟨w4.heap.size,0,none⟩) 4 4):=by rw[hw7];exact(qak w6 _ _ 0).trans rfl
 have x1:w7.cell? ⟨w6.heap.size,1,none⟩=some (.slice A6 n6 c6):=by rw[hw7];exact(qak w6 _ _ 1).trans rfl
 have J:=qj9 w6.heap.size 4 4 n6 c6 _ _ (qlq) (be tree 1++(be epoch 4++(be size 8++(be clock 8++root)))) w7 x0 x1 ((R5.out.call b6).call b67) (r6.call b67) (by simp only[tA6,qaw]at l6;omega);obtain⟨HJ,A5,Zw7,Bw7⟩:=zh4 J hw7 (Zw6.out.below b67 Zw6.out.lt) (Bw6.out.trans (b67.mono Bw6.out.size));clear J x0 x1 b67 hw7 b6 r6 l6 nc6 o6;go_wp2_with fail
 rw[←A5.out];refine HJ.out.mono ?_;rintro e w8 ⟨v8,rfl,o8,b8⟩;obtain⟨A8,n8,c8,rfl,nc8,-,r8⟩:=o8.sl;have l8:=qb5 r8;obtain⟨Zw8,Bw8⟩:=zh2 (Zw7.out.below b8 Zw7.out.lt) (Bw7.out.trans (b8.mono Bw7.out.size));go_wp2_with fail
 go_ret
 exact⟨_,rfl,o8.mono Bw7.out.size,Bw8.out⟩
end
section
open Go.RowKit
theorem qno (a b c d:Value)(R M:List Value)(hR:R.length=32)(hM:M.length=32):Tryz.prog.built 55 [(0,.agg (a::b::c::d::R).toArray),(1,.agg M.toArray)]=some (a::b::c::d::(R++M)).toArray:=by
 obtain⟨a0,a1,a2,a3,a4,a5,a6,a7,a8,a9,a10,a11,a12,a13,a14,a15,a16,a17,a18,a19,a20,a21,a22,a23,a24,a25,a26,a27,a28,a29,a30,a31,rfl⟩:=qfp R hR;obtain⟨b0,b1,b2,b3,b4,b5,b6,b7,b8,b9,b10,b11,b12,b13,b14,b15,b16,b17,b18,b19,b20,b21,b22,b23,b24,b25,b26,b27,b28,b29,b30,b31,rfl⟩:=qfp M hM;kernel_rfl
theorem qnp (a b c d:Value)(R:List Value)(hR:R.length=32)(ha:∃n,a=.int .i64 n)(hb:∃n,b=.int .i64 n)(hc:∃n,c=.int .u64 n)(hd:∃n,d=.int .u64 n):Tryz.prog.built 53 [(0,a),(1,b),(2,c),(3,d),(4,.agg R.toArray)]=some (a::b::c::d::R).toArray:=by
 obtain⟨a0,a1,a2,a3,a4,a5,a6,a7,a8,a9,a10,a11,a12,a13,a14,a15,a16,a17,a18,a19,a20,a21,a22,a23,a24,a25,a26,a27,a28,a29,a30,a31,rfl⟩:=qfp R hR;obtain⟨_,rfl⟩:=ha;obtain⟨_,rfl⟩:=hb;obtain⟨_,rfl⟩:=hc;obtain⟨_,rfl⟩:=hd;kernel_rfl
theorem qnq (h:Hd)(hl:h.root.length=32):(hd0v h).length=36:=by unfold hd0v;simp only[List.length_cons,qat,hl]
theorem qnr (h:Hd)(hb:∀x∈h.root,x<256):∀x∈qls h,x<256:=by
 intro x hx;unfold qls at hx;simp only[List.mem_append]at hx;rcases hx with h1|h1|h1|h1|h1|h1
 · exact qni x h1
 · exact qaz _ _ x h1
 · exact qaz _ _ x h1
 · exact qaz _ _ x h1
 · exact qaz _ _ x h1
 exact hb x h1
theorem qns (h:Hd)(hl:h.root.length=32):(qls h).length=57:=by
 unfold qls;simp only[tA6,qaw,hl];rfl
theorem qnt (c:Cfg)(seedv:Value)(A:Option Addr)(n k:Nat)(w:World)(hr:Reads w w.heap.size 1 A n (byv c.seed))(hs:∀x∈c.seed,x<256)(hn:n≤64)(hT:Tabs w):
 Calls Tryz.prog 179 #[.agg #[.int .i64 c.width,.int .i64 c.quantum,.int .u32 (c.store:Int),.slice A n k]] w fun e w'=>e=.returned (.agg (byv (qlr c.seed)).toArray)∧Below w.heap.size w w':=by
 obtain⟨W0,hW0⟩:=eqx ((w.alloc (.cells #[.int .i64 c.width,.int .i64 c.quantum,.int .u32 (c.store:Int),.slice A n k] 25)).alloc (.cells zLD 29));have z0:Blk W0 (w.heap.size+1) 29 (byv (List.replicate 32 0)).toArray:=by
  have h:=Blk.new (w.alloc (.cells #[.int .i64 c.width,.int .i64 c.quantum,.int .u32 (c.store:Int),.slice A n k] 25)) 29 zLD;rw[qar]at h;rw[hW0];exact h
 have b0:Below w.heap.size w W0:=by rw[hW0];exact qah (qah (tA5 _ _) _) _
 obtain⟨w4,rfl⟩:=eqx W0;have e4:(w4.alloc (.cells (byv qlo).toArray 5)).heap[w4.heap.size]? =some (.cells (byv qlo).toArray 5 (0,0)):=heap_alloc_new w4 _;have s4:w4.heap.size=w.heap.size+1+1:=by rw[hW0];simp
 obtain⟨A0,E4,Zw4,Bw4,HR,HT,HS,S4⟩:=zh8 hW0 e4 z0 b0 hr hT hs s4;clear hW0 z0 b0 hr hT hs e4 s4;have e4:=E4.out;rw[S4.out,A0.out]at e4;go_enter Tryz.func179,Tryz.ntmps179
 go_wp2_with (refine wpList_plain rfl fun K9 hK9=>qjw (.tmp 5) rfl (w.heap.size+1+1) 4 4 rfl (byv qlo).toArray e4 ?_)
 clear e4;rw[←A0.out];intro w5 g5 l5;refine hK9 _ _ ?_;have b45:Below w4.heap.size w4 w5:=((tA5 _ _).alloc (tA4 _) (.cells (byv qlo).toArray 5)).grown g5 (by simp) (by intro g hg;injection hg with hg;have:=S4.out;omega);obtain⟨Zw5,Bw5⟩:=zh2 (Zw4.out.below b45 Zw4.out.lt) (Bw4.out.trans (b45.mono Bw4.out.size));have M:=qja n k 4 4 A _ c.seed qlo w5 (HR.out.call Bw5.out) l5.reads HS.out qnh hn (by decide) (HT.out.below Bw5.out HT.out.size);have HM:=zh1 M;clear M g5 l5 b45;go_wp2_with fail
 refine HM.out.mono ?_;rintro e w9 ⟨rfl,b9⟩;obtain⟨Z9,B9⟩:=zh2 (Zw5.out.below b9 Zw5.out.lt) (Bw5.out.trans (b9.mono Bw5.out.size));clear b9;obtain⟨X9,hX9⟩:=xeq (byv (mac c.seed qlo));have lX9:X9.length=32:=by rw[←hX9,qat];exact qjt _ _
 have oX9:∀u∈X9,u.oneCell'=true:=by rw[←hX9];exact qau _
 try rw[hX9]
 obtain⟨A2,A3,A4,A1⟩:=zh4 hX9 lX9 oX9 (zI 29 lX9);clear hX9 lX9 oX9;go_wp2_with (refine zst 29 (.tmp 2) (.tmp 7) (w.heap.size+1) X9 Z9.out A1.out (by simp[A3.out,qat]) A4.out ?_)
 have z9:=Z9.out.setRow X9.toArray;have A5:=qap z9 0 X9 (fun j u h=>by simpa using h);exact zrt A5 Tryz.underlying29 A1.out ⟨(by rw[←A2.out];try rfl),below_setRow B9.out (by first|omega|exact tA4 _) _⟩
theorem qnu (key:List Nat)(h:Hd)(w:World)(lk:key.length=32)(bk:∀x∈key,x<256)(ht:0≤h.tree∧h.tree<4294967296)(he:0≤h.epoch∧h.epoch<4294967296)(hs:h.size<18446744073709551616)(hc:h.clock<18446744073709551616)(hl:h.root.length=32)(hb:∀x∈h.root,x<256)(hT:Tabs w):
 Calls Tryz.prog 175 #[.agg (byv key).toArray,.agg (hd0v h).toArray] w fun e w'=>e=.returned (.agg (hdv (signed key h)).toArray)∧Below w.heap.size w w':=by
 have lD:=qnq h hl;have KB:=fun w=>qnn h w ht he hs hc hl
 have hB:=qnr h hb;have lB:=qns h hl;have bS:=qno (.int .i64 h.tree) (.int .i64 h.epoch) (.int .u64 (h.size:Int)) (.int .u64 (h.clock:Int)) (byv h.root) (byv (mac key (qls h))) (by rw[qat,hl]) (by rw[qat,qjt]);have oS:=qlm (signed key h);have lS:(hdv (signed key h)).length=68:=by unfold hdv signed;simp only[List.length_cons,tA6,qat,hl,qjt]
 rw[show (Value.int .i64 h.tree::.int .i64 h.epoch::.int .u64 (h.size:Int)::.int .u64 (h.clock:Int)::(byv h.root++byv (mac key (qls h))))=hdv (signed key h) from rfl,show (Value.int .i64 h.tree::.int .i64 h.epoch::.int .u64 (h.size:Int)::.int .u64 (h.clock:Int)::byv h.root)=hd0v h from rfl]at bS;obtain⟨X,hX⟩:=xeq (hdv (signed key h));obtain⟨D,hD⟩:=xeq (hd0v h);obtain⟨MM,hMM⟩:=xeq (mac key (qls h));obtain⟨hdb,hhb⟩:=xeq (qls h);obtain⟨V,hV⟩:=xeq (byv key);rw[hX]at bS oS lS ⊢;rw[hD]at bS lD ⊢;simp only[hD,hhb]at KB;rw[hMM]at bS;rw[hhb]at hMM hB lB;obtain⟨MV,hMV⟩:=xeq (byv MM);rw[hMV]at bS;obtain⟨W0,hW0⟩:=eqx (((w.alloc (.cells V.toArray 29)).alloc (.cells D.toArray 53)).alloc (.cells Tryz.zeroCells55 55));have k0:Blk W0 w.heap.size 29 (byv key).toArray:=by rw[hV,hW0];exact((Blk.new w _ _).alloc _).alloc _
 have d0:Blk W0 (w.heap.size+1) 53 D.toArray:=by
  have h:=(Blk.new (w.alloc (.cells V.toArray 29)) 53 D.toArray).alloc (.cells Tryz.zeroCells55 55);rw[qar]at h;rw[hW0];exact h
 have z0:Blk W0 (w.heap.size+1+1) 55 (hdv Hd.zero).toArray:=by
  have h:=Blk.new ((w.alloc (.cells V.toArray 29)).alloc (.cells D.toArray 53)) 55 Tryz.zeroCells55;rw[qar,qar]at h;rw[hW0];rw[show (hdv Hd.zero).toArray=Tryz.zeroCells55 by kernel_rfl];exact h
 have b0:Below w.heap.size w W0:=by rw[hW0];exact qah (qah (qah (tA5 _ _) _) _) _
 rw[hV];obtain⟨K0,D0,Z0,B0,A4,A5,HB,LB⟩:=zh8 k0 d0 z0 b0 hW0 KB hB lB;obtain⟨BS,OS,LS,HX,A6,A7,LK,BK⟩:=zh8 bS oS lS hX hMM hMV lk bk;obtain⟨HT,LD,L0⟩:=zh3 hT lD z0.lt;clear k0 d0 z0 b0 hW0 KB hB lB bS oS lS hX hMM hMV lk bk hT lD hD hhb hV;go_enter Tryz.func175,Tryz.ntmps175
 go_upto_region 1 with(fail)
 rw[←A4.out];obtain⟨S,HS⟩:∃S:World→Prop,Hid (∀w',S w'=Below W0.heap.size W0 w'):=⟨_,fun _=>rfl⟩;refine zrs S 6 [(0,false),(1,false),(2,false),(3,true),(4,true),(5,false),(6,true)] ((HS.out _).mpr (tA5 _ _).drew) ?_;obtain⟨A0,A2⟩:=zh2 (fun(w':World)(h:S w')=>qap (D0.out.below ((HS.out w').mp h) D0.out.lt) 0 D (fun j u h=>by simpa using h)) (zI 53 LD.out);refine qnf rfl rfl 53 (.tmp 3) rfl (w.heap.size+1) 0 rfl D _ A0.out Tryz.underlying53 rfl A2.out ?_;try simp only[Act.put,tA0,tA1,tA2]
 iterate 1 (refine zrd rfl rfl (fun w1 hS=>by go_simp;(try go_bits);try rfl) ?_;simp only[Act.put,tA0,tA1,tA2])
 refine qnf rfl rfl 53 (.tmp 3) rfl (w.heap.size+1) 0 rfl D _ A0.out Tryz.underlying53 rfl A2.out ?_;try simp only[Act.put,tA0,tA1,tA2]
 obtain⟨Wd,hWd⟩:=eqx W0.drew;have bd:Below W0.heap.size W0 Wd:=by rw[hWd];exact(tA5 _ _).drew
 rw[←hWd];clear hWd;refine qbj rfl rfl ?_;go_simp;refine(A5.out Wd).mono ?_;rintro e w1 ⟨v1,rfl,o1,b1⟩;obtain⟨A1,n1,c1,rfl,nc1,-,r1⟩:=o1.sl;have l1:=qb5 r1;rw[LB.out]at l1;have b1':=bd.trans (b1.mono bd.size);have k1:=K0.out.below b1' K0.out.lt;have rk:=qdg k1 (p:=0) (by omega);rw[LK.out,List.drop_zero]at rk;have M:=qja 32 32 n1 c1 _ A1 key hdb w1 rk r1 BK.out HB.out (by omega) (by omega) ((HT.out.below B0.out HT.out.size).below b1' (Nat.le_trans HT.out.size B0.out.size));rw[A6.out,A7.out]at M;obtain⟨HM,B1⟩:=zh2 M b1';clear M rk k1 b1 b1' o1 r1 l1 nc1 bd;refine⟨(HS.out _).mpr B1.out,?_⟩;try simp only[Act.put,tA0,tA1,tA2]
 refine qbj rfl rfl ?_;go_simp;refine HM.out.mono ?_;rintro e w2 ⟨rfl,b2⟩;have B2:=zh1 (B1.out.trans (b2.mono B1.out.size));clear b2;refine⟨(HS.out _).mpr B2.out,?_⟩;try simp only[Act.put,tA0,tA1,tA2]
 refine qbh rfl rfl ⟨.agg X.toArray,fun w1 hS=>qfq 55 _ rfl _ _ BS.out (by simp[Act.eval]),?_⟩;try simp only[Act.put,tA0,tA1,tA2]
 have Z2:=Z0.out.below B2.out Z0.out.lt;have IX:(Tryz.prog.info? 55).map (·.size)=some X.length:=by rw[LS.out];kernel_rfl
 refine qbj rfl rfl ?_;refine wp_store_row 55 (.tmp 4) (.tmp 10) rfl (w.heap.size+1+1) X.toArray rfl rfl 55 _ Z2 (by simpa using IX) (by simp[LS.out,qmw Hd.zero_Ok]) (by simpa using OS.out) ?_;refine⟨fun h=>absurd h (by decide),?_⟩;try simp only[Act.put,tA0,tA1,tA2]
 refine qbg ?_;have z9:=Z2.setRow X.toArray;have A3:=qap z9 0 X (fun j u h=>by simpa using h);obtain⟨A8,A9⟩:=zh2 A3 IX;clear IX z9 A3 Z2;go_wp2_with fail
 exact zrt A8.out Tryz.underlying55 A9.out ⟨rfl,below_setRow (B0.out.trans (B2.out.mono B0.out.size)) (by omega) _⟩
end
section
open Go
section
variable {P : Program} {ops : Array Oper} {Q : Exit → Act → World → Prop} {md : Region.Mode} {S : World → Prop} {n : Nat}
def qnv (md:Region.Mode)(ops:Array Oper)(n:Nat)(M:List (Nat × List Nat))(L1:Array Bool):Nat→Array Bool→Bool
 |0,listed=>listed==L1
 |m+1,listed=>!(Region.ready md ops listed).isEmpty&&(Region.ready md ops listed).all fun i=>decide (i<n)&&M.any (fun x=>x.1==i)&&qnv md ops n M L1 m (listed.setIfInBounds i true)
def qnw (md:Region.Mode)(ops:Array Oper)(M:List (Nat × List Nat)):Bool:=
 M.all fun x=>x.2.all fun d=>match ops[x.1]? with|none=>false|some o=>o.after.any fun e=>Region.binds md e&&e.on==d
def Each:List (Nat × List Nat)→(Nat→List Nat→Prop)→Prop
 |[],_=>True
 |(i,ds)::r,p=>p i ds∧Each r p
theorem Each.get {p:Nat→List Nat→Prop}:∀{M:List (Nat × List Nat)},Each M p→∀x∈M,p x.1 x.2
 |[],_,x,hx=>(nomatch hx)
 |(i,ds)::r,h,x,hx=>by
  rcases List.mem_cons.1 hx with rfl|hx
  · exact h.1
  exact h.2.get x hx
def qnx (P:Program)(ops:Array Oper)(Q:Exit→Act→World→Prop)(S:World→Prop)(Inv:(Nat→Bool)→Act→World→Prop)(i:Nat)(ds:List Nat):Prop:=
 ∀(D:Nat→Bool) (a:Act) (w:World),S w→Inv D a w→D i=false→(∀d∈ds,D d=true)→wpOp P ops Q i (fun a' w'=>S w'∧Inv (fun j=>D j||j==i) a' w') a w
def qny (P:Program)(ops:Array Oper)(Q:Exit→Act→World→Prop)(S:World→Prop)(n:Nat)(M:List (Nat × List Nat))(L0 L1:Array Bool)(post:List (Nat × Bool))(a:Act)(w:World):Prop:=
 ∃Inv:(Nat→Bool)→Act→World→Prop,Inv (fun j=>L0.getD j false) a w∧Each M (qnx P ops Q S Inv)∧∀a' w',S w'→Inv (fun j=>L1.getD j false) a' w'→qba P ops Q S n post a' w'
theorem qnz {Inv:(Nat→Bool)→Act→World→Prop}{M:List (Nat × List Nat)}{L1:Array Bool}{fuel:Nat}(hd:qnw md ops M=true)(hM:Each M (qnx P ops Q S Inv))
 (hK:∀a w,S w→HeadInv md ops n L1→Inv (fun j=>L1.getD j false) a w→wpAnyS P md ops Q S n fuel L1 a w):
 ∀(m:Nat) (listed:Array Bool) (a:Act) (w:World),HeadInv md ops n listed→S w→qnv md ops n M L1 m listed=true→Inv (fun j=>listed.getD j false) a w→wpAnyS P md ops Q S n (m+fuel) listed a w:=by
 intro m;induction m with
 |zero=>
  intro listed a w inv hS ho h;simp only[qnv,beq_iff_eq]at ho;subst ho;simpa using hK a w hS inv h
 |succ m ih=>
  intro listed a w inv hS ho h;rw[Nat.add_right_comm];simp only[qnv,Bool.and_eq_true,Bool.not_eq_true',List.all_eq_true,decide_eq_true_eq,List.any_eq_true,beq_iff_eq]at ho;obtain⟨hne,hall⟩:=ho;refine⟨fun h0=>(by rw[h0]at hne;simp at hne),fun i hi=>?_⟩;obtain⟨⟨hin,x,hx,hxi⟩,ho⟩:=hall i hi;obtain⟨hun,o,hoi,haft⟩:=mem_ready.1 hi;subst hxi;have hlt:x.1<listed.size:=by
   rcases Nat.lt_or_ge x.1 listed.size with h'|h'
   · exact h'
   simp[Array.getElem?_eq_none h']at hun
  have h0:listed.getD x.1 false=false:=by
   simp only[Array.getD_eq_getD_getElem?,Array.getElem?_eq_getElem hlt,Option.getD_some]at hun ⊢;exact hun
  refine wpOp_mono (fun a' w' h'=>⟨fun _=>h'.1,ih _ _ _ (inv.set hi hin) h'.1 ho ?_⟩) (hM.get x hx _ a w hS h h0 ?_)
  ·
   have e:(fun j=>(listed.setIfInBounds x.1 true).getD j false)=fun j=>listed.getD j false||j==x.1:=by
    funext j
    by_cases hj:x.1=j
    · subst hj
      simp[Array.getD_eq_getD_getElem?,hlt]
    rw[getD_set_ne false hj];have:(j==x.1)=false:=by simpa using fun e=>hj e.symm
    rw[this,Bool.or_false]
   rw[e];exact h'.2
  intro d hdm;have:=List.all_eq_true.1 (List.all_eq_true.1 hd x hx) d hdm;rw[hoi]at this;simp only[Array.any_eq_true',Bool.and_eq_true,beq_iff_eq]at this;obtain⟨e,he,hb,rfl⟩:=this;exact haft e he hb
def qo0 (P:Program)(ops:Array Oper)(Q:Exit→Act→World→Prop)(S:World→Prop)(n:Nat)(ds:List Nat)(M:List (Nat × List Nat))(L0 L1:Array Bool)(post:List (Nat × Bool))(a:Act)(w:World):Prop:=
 ∃Inv:(Nat→Bool)→List Value→World→Prop,(∃vs,a=puts a ds vs∧Inv (fun j=>L0.getD j false) vs w)∧
  Each M (fun i deps=>∀(D:Nat→Bool) (vs:List Value) (w:World),S w→Inv D vs w→D i=false→(∀d∈deps,D d=true)→wpOp P ops Q i (fun a' w'=>S w'∧∃vs',a'=puts a ds vs'∧Inv (fun j=>D j||j==i) vs' w') (puts a ds vs) w)∧
  ∀vs w',S w'→Inv (fun j=>L1.getD j false) vs w'→qba P ops Q S n post (puts a ds vs) w'
theorem Each.imp {p q:Nat→List Nat→Prop}(h:∀i ds,p i ds→q i ds):∀{M:List (Nat × List Nat)},Each M p→Each M q
 |[],_=>trivial
 |(i,ds)::r,hp=>⟨h i ds hp.1,Each.imp h hp.2⟩
theorem qo1 {ds:List Nat}{M:List (Nat × List Nat)}{L0 L1:Array Bool}{post:List (Nat × Bool)}{a:Act}{w:World}(h:qo0 P ops Q S n ds M L0 L1 post a w):qny P ops Q S n M L0 L1 post a w:=by
 obtain⟨Inv,⟨vs,e,h0⟩,h1,h2⟩:=h;refine⟨fun D a' w'=>∃vs,a'=puts a ds vs∧Inv D vs w',⟨vs,e,h0⟩,h1.imp ?_,?_⟩
 · rintro i deps hp D a' w' hS ⟨vs,rfl,hI⟩ hD hd
   exact hp D vs w' hS hI hD hd
 rintro a' w' hS ⟨vs,rfl,hI⟩;exact h2 vs w' hS hI
theorem qo2 {K K':Act→World→Prop}(hK:∀a w,K a w→K' a w):∀(r:List (Nat × Bool)) (a:Act) (w:World),qjc P ops Q S K r a w→qjc P ops Q S K' r a w
 |[],a,w,h=>hK a w h
 |(i,false)::r,a,w,h=>by
  obtain⟨o,v,h1,h2,h3⟩:=h;exact⟨o,v,h1,h2,qo2 hK r _ _ h3⟩
 |(i,true)::r,a,w,h=>wpOp_mono (fun a' w' h'=>⟨h'.1,qo2 hK r _ _ h'.2⟩) h
theorem qo3 {id:Nat}{a:Act}{w:World}(S:World→Prop)(n:Nat)(ds:List Nat)(pre:List (Nat × Bool))(m:Nat)(M:List (Nat × List Nat))(post:List (Nat × Bool))(L0 L1:Array Bool)
 (hm:P.follows .mixedOrders=true)(hlen:(pre.length+(m+post.length)==ops.size)=true)(hsel:Region.noSelect ops=true)(ht:qbe .any ops n=true)
 (ho:qjb .any ops n pre (Array.replicate ops.size false)=some L0)(h1:qnv .any ops n M L1 m L0=true)(hd:qnw .any ops M=true)
 (hp:qb8 .any ops n post L1=true)(hQ:∀c a d v w,Q (.panic c) (a.put d v) w→Q (.panic c) a w)(hS:S w.drew)
 (h:qjc P ops Q S (qo0 P ops Q S n ds M L0 L1 post) pre a w.drew):(Code.region id ops true).wp P Q a w:=by
 replace h:=qo2 (K':=qny P ops Q S n M L0 L1 post) (fun a w h=>qo1 h) _ _ _ h;have ht':Tails .any ops n:=by
  unfold qbe at ht;simp only[Bool.or_eq_true,beq_iff_eq,Bool.and_eq_true,decide_eq_true_eq]at ht;exact ht.imp (fun h=>h) fun ⟨⟨a,b⟩,c⟩=>⟨a,b,c⟩
 have hl:pre.length+(m+post.length)=ops.size:=by simpa using hlen
 refine wp_region_any hm (qb6 (n:=n) (S:=S) _ _ _ _ ?_);rw[←hl];rw[hl];have key:=qjd (P:=P) (Q:=Q) (S:=S) (K:=qny P ops Q S n M L0 L1 post) (L':=L0) (fuel:=m+post.length) hsel hQ ht' (fun a w hS inv hk=>by
  obtain⟨Inv,k0,k1,k3⟩:=hk;refine qnz hd k1 ?_ m L0 a w inv hS h1 k0;intro a' w' hS' inv' hI;exact qbb qbc hsel hQ ht' post L1 _ _ inv' hS' hp (k3 a' w' hS' hI))
  pre (Array.replicate ops.size false) a w.drew qbd hS ho h
 rw[hl]at key;exact key
theorem qo4 {i:Nat}{a:Act}{w:World}{K:Act→World→Prop}(h:∀K',(∀a w,K a w→K' a w)→wpOp P ops Q i K' a w):wpOp P ops Q i K a w:=h K fun _ _ h=>h
end
end
section
open Go.RowKit
theorem qo5 (k:Int)(w:World):
 Calls Tryz.prog 246 #[.int .i64 k] w fun e w'=>e=.returned (.int .i64 (cutW k:Nat))∧w=w':=by
 by_cases h:k<1∨32<k
 ·
  have H:Hid (((cutW k:Nat):Int)=32):=by unfold Hid cutW;rw[if_pos h];rfl
  by_cases h1:k<1
  · clear h
    go_enter Tryz.func246,Tryz.ntmps246
    go_wp2
    go_ret
    exact⟨by rw[H.out];rfl,rfl⟩
  have h2:32<k:=by omega
  clear h;go_enter Tryz.func246,Tryz.ntmps246
  go_wp2
  go_ret
  exact⟨by rw[H.out];rfl,rfl⟩
 have H:Hid (((cutW k:Nat):Int)=k):=by unfold Hid cutW;rw[if_neg h];omega
 have h1:¬k<1:=by omega
 have h2:¬32<k:=by omega
 clear h;go_enter Tryz.func246,Tryz.ntmps246
 go_wp2
 go_ret
 exact⟨by rw[H.out];rfl,rfl⟩
theorem qo6 (d:List Nat)(k:Nat)(hd:d.length=32)(hk:k≤32):splice (byv (List.replicate 32 0)) 0 (byv (d.take k))=byv (cutD d k):=by
 rw[qd4,List.length_take,hd,Nat.min_eq_left hk];rfl
theorem qo7 (d:List Nat)(k:Nat)(w:World)(hd:d.length=32)(hk:k≤32):
 Calls Tryz.prog 244 #[.agg (byv d).toArray,.int .i64 (k:Int)] w fun e w'=>e=.returned (.agg (byv (cutD d k)).toArray)∧Below w.heap.size w w':=by
 have lD:(byv d).length=32:=by rw[qat];exact hd
 have hcut:=qo6 d k hd hk;have lX:(byv (cutD d k)).length=32:=by rw[qat];exact qe9 hd hk
 obtain⟨W0,hW0⟩:=eqx (((w.alloc (.cells (byv d).toArray 29)).alloc (.cells zLD 29)).alloc (.cells zLD 29));have k0:Blk W0 w.heap.size 29 (byv d).toArray:=by rw[hW0];exact((Blk.new w _ _).alloc _).alloc _
 have z0:Blk W0 (w.heap.size+1) 29 (byv (List.replicate 32 0)).toArray:=by
  have h:=(Blk.new (w.alloc (.cells (byv d).toArray 29)) 29 zLD).alloc (.cells zLD 29);rw[qar]at h;rw[hW0];exact h
 have y0:Blk W0 (w.heap.size+1+1) 29 (byv (List.replicate 32 0)).toArray:=by
  have h:=Blk.new ((w.alloc (.cells (byv d).toArray 29)).alloc (.cells zLD 29)) 29 zLD;rw[qar,qar]at h;rw[hW0];exact h
 have b0:Below w.heap.size w W0:=by rw[hW0];exact qah (qah (qah (tA5 _ _) _) _) _
 obtain⟨V,hV⟩:=xeq (byv d);rw[hV]at lD k0 hW0 ⊢;have q1:¬(k:Int)<0:=by omega
 have q2:¬(32:Int)<k:=by omega
 have q3:(0:Int)≤k:=by omega
 have q4:(k:Int)≤32:=by omega
 obtain⟨A0,K0,Z0,Y0,B0,HC,HV,LX⟩:=zh8 hW0 k0 z0 y0 b0 hcut hV lX;clear hW0 k0 z0 y0 b0 hcut hV lX;go_enter Tryz.func244,Tryz.ntmps244
 go_upto_region 2 with(fail)
 rw[←A0.out];obtain⟨S,HS⟩:∃S:World→Prop,Hid (∀w',S w'):=⟨fun _=>True,fun _=>trivial⟩;refine zrs S 5 [(0,false),(1,false),(2,false),(3,false),(4,false),(5,true)] (HS.out _) ?_;repeat(refine qbh rfl rfl ⟨?_,fun w1 hS=>?_,?_⟩;rotate_left;(focus(go_simp;(try rfl)));simp only[Act.put,tA0,tA1,tA2])
 refine qbj rfl rfl ?_;have hcell:∀j u,(byv (d.take k))[j]? =some u→W0.drew.cell? ((⟨w.heap.size,0,none⟩:Addr).add j)=some u:=fun j u hu=>by
  have hd':(byv d)[j]? =some u:=by
   unfold byv at hu ⊢;rw[List.map_take,List.getElem?_take]at hu;split at hu
   · exact hu
   cases hu
  rw[HV.out]at hd';rw[Addr.add_mid,Nat.zero_add];exact(K0.out.drew.cell j).trans (by rw[tA3];exact hd')
 refine qd6 (.tmp 6) (.tmp 10) 23 23 rfl 5 (by kernel_rfl) (by kernel_rfl) _ _ _ _ _ _ rfl rfl (w.heap.size+1+1) 0 (byv (List.replicate 32 0)) 29 Y0.out.drew (byv (d.take k)) (by rw[qat,List.length_take,hd]) (fun h0=>⟨rfl,_,rfl,hcell⟩) (by rw[qat,qat,List.length_take,List.length_replicate];omega) (qau _) ?_;intro w1 hg1 hgr;have y1:Blk w1 (w.heap.size+1+1) 29 (byv (cutD d k)).toArray:=by rw[←HC.out];exact hg1
 have z1:Blk w1 (w.heap.size+1) 29 (byv (List.replicate 32 0)).toArray:=Z0.out.drew.grown hgr (by intro e;injection e with e;omega);have b1:Below w.heap.size w w1:=(B0.out.drew).grown hgr (by have:=B0.out.size;exact this) (by intro g hg;injection hg with hg;omega);clear hcell hg1 hgr q1 q2 q3 q4 lD;refine⟨fun _=>(HS.out _),?_⟩;try simp only[Act.put,tA0,tA1,tA2]
 refine qbg ?_;obtain⟨X,hX⟩:=xeq (byv (cutD d k));rw[hX]at y1 LX;obtain⟨A1,HI,Z1,B1,HX⟩:=zh5 (qap y1 0 X (fun j u h=>by simpa using h)) (zI 29 LX.out) z1 b1 hX;clear y1 z1 b1 hX;have HO:=zh1 (show ∀u∈X,u.oneCell'=true by rw[←HX.out];exact qau _);go_wp2_with (first
  |(refine qaq rfl 29 (.tmp 5) rfl (w.heap.size+1+1) 0 rfl X _ A1.out Tryz.underlying29 rfl HI.out ?_)
  |(refine zst 29 (.tmp 4) (.tmp 12) (w.heap.size+1) X Z1.out HI.out (by simp[LX.out,qat]) HO.out ?_))
 have z9:=Z1.out.setRow X.toArray;have A2:=qap z9 0 X (fun j u h=>by simpa using h);exact zrt A2 Tryz.underlying29 HI.out ⟨by rw[←HX.out],below_setRow B1.out (by omega) _⟩
theorem qo8 (W:Int)(bs:List Nat)(A:Option Addr)(n c:Nat)(w:World)(hb:∀x∈bs,x<256)(hr:Reads w w.heap.size 1 A n (byv bs))(hnc:n≤c)(hn:n≤1152921504606846975)(ht:Tabs w):
 Calls Tryz.prog 211 #[.int .i64 W,.slice A n c] w fun e w'=>e=.returned (.agg (byv (sumH (cutW W) bs)).toArray)∧Below w.heap.size w w':=by
 have lc:=qdt W;obtain⟨W0,hW0⟩:=eqx (w.alloc (.cells zLD 29));have z0:Blk W0 w.heap.size 29 (byv (List.replicate 32 0)).toArray:=by rw[hW0];exact Blk.new w _ _
 have b0:Below w.heap.size w W0:=by rw[hW0];exact qah (tA5 _ _) _
 have S0:=qds n c A bs W0 hb (hr.call b0) hnc hn (ht.below b0 ht.size);obtain⟨A1,Z0,B0,A2⟩:=zh4 hW0 z0 b0 S0;clear hW0 z0 b0 S0 hb hr ht hnc hn;go_enter Tryz.func211,Tryz.ntmps211
 go_wp2_with fail
 rw[←A1.out];refine A2.out.mono ?_;rintro e w1 ⟨rfl,b1⟩;obtain⟨Z1,B1⟩:=zh2 (Z0.out.below b1 Z0.out.lt) (B0.out.trans (b1.mono B0.out.size));clear b1;go_wp2_with fail
 refine(qo5 _ _).mono ?_;rintro e w2 ⟨rfl,rfl⟩;go_wp2_with fail
 refine(qo7 (sha bs) (cutW W) w1 (qj5 bs) lc.2).mono ?_;rintro e w2 ⟨rfl,b2⟩;obtain⟨Z2,B2⟩:=zh2 (Z1.out.below b2 Z1.out.lt) (B1.out.trans (b2.mono B1.out.size));clear b2;obtain⟨X9,hX9⟩:=xeq (byv (cutD (sha bs) (cutW W)));have lX9:X9.length=32:=by rw[←hX9,qat];exact qe9 (qj5 bs) lc.2
 have oX9:∀u∈X9,u.oneCell'=true:=by rw[←hX9];exact qau _
 try rw[hX9]
 obtain⟨A3,A4,A5,A0⟩:=zh4 hX9 lX9 oX9 (zI 29 lX9);clear hX9 lX9 oX9;go_wp2_with (refine zst 29 (.tmp 4) (.tmp 9) (w.heap.size) X9 Z2.out A0.out (by simp[A4.out,qat]) A5.out ?_)
 have z9:=Z2.out.setRow X9.toArray;have A6:=qap z9 0 X9 (fun j u h=>by simpa using h);exact zrt A6 Tryz.underlying29 A0.out ⟨(by rw[←A3.out];try rfl),below_setRow B2.out (by first|omega|exact tA4 _) _⟩
theorem qo9 (w:World)(b:Nat):Reads (w.alloc (.cells #[.int .u8 (b:Int)] 5)) (w.alloc (.cells #[.int .u8 (b:Int)] 5)).heap.size 1 (some ⟨w.heap.size,0,none⟩) 1 (byv [b]):=by
 have:=Reads.new1 w 5 (.int .u8 (b:Int));simpa [byv] using this
theorem qoa (W:Int)(bs:List Nat)(A:Option Addr)(n c:Nat)(w:World)(hb:∀x∈bs,x<256)(hr:Reads w w.heap.size 1 A n (byv bs))(hnc:n≤c)(hn:n≤4294967296)(ht:Tabs w):
 Calls Tryz.prog 213 #[.int .i64 W,.slice A n c] w fun e w'=>e=.returned (.agg (byv (qdu (cutW W) bs)).toArray)∧Below w.heap.size w w':=by
 have hln:=qb5 hr;obtain⟨W0,hW0⟩:=eqx (w.alloc (.cells zLD 29));obtain⟨W1,hW1⟩:=eqx (W0.alloc (.cells #[.int .u8 0] 5));obtain⟨W2,hW2⟩:=eqx (W1.alloc (.cells #[.slice (some ⟨W0.heap.size,0,none⟩) 1 1,.slice A n c] 23));have s0:W0.heap.size=w.heap.size+1:=by rw[hW0];simp
 have s1:W1.heap.size=w.heap.size+1+1:=by rw[hW1,qar,s0]
 have b0:Below w.heap.size w W0:=by rw[hW0];exact qah (tA5 _ _) _
 have b01:Below W0.heap.size W0 W1:=by rw[hW1];exact qah (tA5 _ _) _
 have b12:Below W1.heap.size W1 W2:=by rw[hW2];exact qah (tA5 _ _) _
 have b2:Below w.heap.size w W2:=(b0.trans (b01.mono b0.size)).trans (b12.mono (by omega));have z2:Blk W2 w.heap.size 29 (byv (List.replicate 32 0)).toArray:=by
  have z0:Blk W0 w.heap.size 29 (byv (List.replicate 32 0)).toArray:=by rw[hW0];exact Blk.new w _ _
  exact(z0.below b01 z0.lt).below b12 (by omega)
 have r1:Reads W1 W1.heap.size 1 (some ⟨W0.heap.size,0,none⟩) 1 (byv [0]):=by rw[hW1];exact qo9 W0 0
 have x0:W2.cell? ⟨W1.heap.size,0,none⟩=some (.slice (some ⟨W0.heap.size,0,none⟩) 1 1):=by rw[hW2];exact(qak W1 _ _ 0).trans rfl
 have x1:W2.cell? ⟨W1.heap.size,1,none⟩=some (.slice A n c):=by rw[hW2];exact(qak W1 _ _ 1).trans rfl
 have J:=qj9 W1.heap.size 1 1 n c _ _ [0] bs W2 x0 x1 (r1.call b12) (hr.call b2) (by omega);rw[s0]at hW2;rw[s1]at J;obtain⟨Z2,B2,HJ,A1,A2,A4,T2,Hb⟩:=zh8 z2 b2 J hW0 hW1 hW2 (ht.below b2 ht.size) hb;have HL:=zh1 hln;clear hW0 hW1 hW2 s0 s1 b0 b01 b12 b2 z2 r1 x0 x1 J hb hr ht hln;go_enter Tryz.func213,Tryz.ntmps213
 go_wp2_with fail
 rw[←A1.out,←A2.out,←A4.out];refine HJ.out.mono ?_;rintro e w3 ⟨v3,rfl,o3,b3⟩;obtain⟨A3,n3,c3,rfl,nc3,-,r3⟩:=o3.sl;have l3:=qb5 r3;have l3':n3≤1152921504606846975:=by rw[tA6,List.length_singleton]at l3;have:=HL.out;omega
 have M:=qo8 W (0::bs) A3 n3 c3 w3 (by intro x hx;rcases List.mem_cons.1 hx with rfl|h;decide;exact Hb.out x h) r3 nc3 l3' (T2.out.below b3 T2.out.size);obtain⟨HM,Z3,B3⟩:=zh3 M (Z2.out.below b3 Z2.out.lt) (B2.out.trans (b3.mono B2.out.size));clear M o3 b3 r3 l3 l3' nc3;go_wp2_with fail
 refine HM.out.mono ?_;rintro e w4 ⟨rfl,b4⟩;obtain⟨Z4,B4⟩:=zh2 (Z3.out.below b4 Z3.out.lt) (B3.out.trans (b4.mono B3.out.size));clear b4;obtain⟨X9,hX9⟩:=xeq (byv (sumH (cutW W) (0::bs)));have lX9:X9.length=32:=by rw[←hX9,qat];exact qe9 (qj5 _) (qdt W).2
 have oX9:∀u∈X9,u.oneCell'=true:=by rw[←hX9];exact qau _
 try rw[hX9]
 obtain⟨A5,A6,A7,A0⟩:=zh4 hX9 lX9 oX9 (zI 29 lX9);clear hX9 lX9 oX9;go_wp2_with (refine zst 29 (.tmp 4) (.tmp 10) (w.heap.size) X9 Z4.out A0.out (by simp[A6.out,qat]) A7.out ?_)
 have z9:=Z4.out.setRow X9.toArray;have A8:=qap z9 0 X9 (fun j u h=>by simpa using h);exact zrt A8 Tryz.underlying29 A0.out ⟨(by rw[←A5.out];try rfl),below_setRow B4.out (by first|omega|exact tA4 _) _⟩
end
end Go.Proofs.YthomgopipiomhaaGreatDoor
