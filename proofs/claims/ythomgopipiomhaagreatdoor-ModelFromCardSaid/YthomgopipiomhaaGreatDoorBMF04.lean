/- Lemmas. -/
import Derived.Test.YthomgopipiomhaaGreatDoorBMF03
import Derived.Great.BuildSlice
namespace Go.Proofs.YthomgopipiomhaaGreatDoor
open Go.RowKit
set_option linter.unusedVariables false
set_option linter.unusedSimpArgs false
set_option maxRecDepth 100000
set_option maxHeartbeats 32000000
variable {xs cs:List Value}{A:Option Addr}{size n i fuel j b id g base fb fo n' b' k ai bk oj y p B f:Nat}{w w':World}{t:Tre}{s:Sta}{v cv' v':Value}{op o:Oper}{a:Act}{l rest:List Oper}{ds o0 out:List Nat}{K:Act→World→Prop}{Q:Exit→Act→World→Prop}{P:Program}{e e':TypeId}
structure Stp where
 kind:Int
 r:Req
 who:Int
 cavs:List (Int × Nat)
 n:Nat
 raw:List Nat
instance stpInh:Inhabited Stp:=⟨⟨0,⟨0,0,[],[],0,0,0,0,0,0,0,0,0,0,0,0,[]⟩,0,[],0,[]⟩⟩
def stpv (S:Stp)(cav leafv kv rv:Value):List Value:=Value.int .i64 S.kind::(reqv S.r cav leafv++[.int .i64 S.who,kv,.int .u32 (S.n:Int),rv])
theorem qnu(S:Stp)(cav leafv kv rv:Value)(ht:S.r.tag.length=32):(stpv S cav leafv kv rv).length=53:=by
 unfold stpv;simp[qix _ _ _ ht]
theorem qnv(S:Stp)(cav leafv kv rv:Value):∀j u,(reqv S.r cav leafv)[j]? =some u→(stpv S cav leafv kv rv)[1+j]? =some u:=by
 intro j u h;obtain⟨hj,_⟩:=tA8 h;unfold stpv;rw[show 1+j=j+1 by omega,tBc,tBm hj];exact h
theorem qnw(S:Stp)(cav leafv kv rv:Value)(ht:S.r.tag.length=32)(k:Nat):(stpv S cav leafv kv rv)[49+k]? =([.int .i64 S.who,kv,.int .u32 (S.n:Int),rv]:List Value)[k]? :=by
 unfold stpv;rw[show 49+k=(48+k)+1 by omega,tBc,tBn (by rw[qix _ _ _ ht];omega),qix _ _ _ ht];congr 1
 omega
def StpR (w:World)(cs:List Value)(S:Stp):Prop:=
 ∃(Ac:Option Addr) (cc:Nat) (Al:Option Addr) (cl:Nat) (Ak:Option Addr) (ck:Nat) (Ar:Option Addr) (cr:Nat),
  cs=stpv S (.slice Ac S.r.cavs.length cc) (.slice Al S.r.leaf.length cl) (.slice Ak S.cavs.length ck) (.slice Ar S.raw.length cr)∧S.r.Good∧
  (S.r.cavs.length≤cc∧cc≤maxLen∧Reads w w.heap.size 2 Ac S.r.cavs.length (cavv S.r.cavs)∧S.r.cavs.length*16≤140737488351232)∧
  (S.r.leaf.length≤cl∧cl≤maxLen∧Reads w w.heap.size 1 Al S.r.leaf.length (byv S.r.leaf)∧S.r.leaf.length≤140737488351232)∧
  (S.cavs.length≤ck∧ck≤maxLen∧Reads w w.heap.size 2 Ak S.cavs.length (cavv S.cavs)∧(∀x∈S.cavs,x.2<4294967296)∧∀x∈S.cavs,(Lit.int .i64 x.1).wf=true)∧
  (S.raw.length≤cr∧cr≤maxLen∧Reads w w.heap.size 1 Ar S.raw.length (byv S.raw)∧∀b∈S.raw,b<256)∧
  S.n<4294967296∧(Lit.int .i64 S.kind).wf=true∧(Lit.int .i64 S.who).wf=true
def StpsR (w:World)(A:Option Addr)(l:List Stp):Prop:=
 ∃css:List (List Value),css.length=l.length∧(∀c∈css,c.length=53)∧(∀(i:Nat) (S:Stp),l[i]? =some S→∃cs,css[i]? =some cs∧StpR w cs S)∧Reads w w.heap.size 53 A l.length css.flatten
theorem Reads.stay(h:Reads w w.heap.size size A n xs)(hs:w.heap.size≤w'.heap.size)(hb:∀b,b<w.heap.size→w'.heap[b]? =w.heap[b]?):Reads w' w'.heap.size size A n xs:=
 ⟨h.1,fun hn=>by
  obtain⟨ad,e,hl,hc⟩:=h.2 hn;refine⟨ad,e,tB0 hl hs,fun j u hu=>?_⟩;refine(World.cell?_of_block ?_).trans (hc j u hu);rw[qa1];exact hb _ hl⟩
theorem StpR.stay{S:Stp}(h:StpR w cs S)(hs:w.heap.size≤w'.heap.size)(hb:∀b,b<w.heap.size→w'.heap[b]? =w.heap[b]?):StpR w' cs S:=by
 obtain⟨Ac,cc,Al,cl,Ak,ck,Ar,cr,h0,h1,⟨a1,a2,a3,a4⟩,⟨b1,b2,b3,b4⟩,⟨c1,c2,c3,c4⟩,⟨d1,d2,d3,d4⟩,rest⟩:=h;exact⟨Ac,cc,Al,cl,Ak,ck,Ar,cr,h0,h1,⟨a1,a2,a3.stay hs hb,a4⟩,⟨b1,b2,b3.stay hs hb,b4⟩,⟨c1,c2,c3.stay hs hb,c4⟩,⟨d1,d2,d3.stay hs hb,d4⟩,rest⟩
theorem StpsR.stay{l:List Stp}(h:StpsR w A l)(hs:w.heap.size≤w'.heap.size)(hb:∀b,b<w.heap.size→w'.heap[b]? =w.heap[b]?):StpsR w' A l:=by
 obtain⟨css,h1,h2,h3,h4⟩:=h;exact⟨css,h1,h2,fun i S hi=>by
  obtain⟨cs,h5,h6⟩:=h3 i S hi;exact⟨cs,h5,h6.stay hs hb⟩,h4.stay hs hb⟩
theorem StpsR.at_{l:List Stp}(h:StpsR w A l){S:Stp}(hi:l[i]? =some S):
 ∃g o cs,A=some ⟨g,o,none⟩∧cs.length=53∧StpR w cs S∧w.rangeAt g (o+i*53) cs:=by
 obtain⟨css,h1,h2,h3,h4⟩:=h;obtain⟨cs,h5,h6⟩:=h3 i S hi;obtain⟨hi',_⟩:=tA8 hi;obtain⟨g,o,e,-,hc⟩:=h4.mid zo zdc;refine⟨g,o,cs,e,h2 _ (tB2 h5),h6,fun j u hu=>?_⟩;obtain⟨hj,_⟩:=tA8 hu;have h53:=h2 _ (tB2 h5);have:=hc (i*53+j) u ((qng h2 h5 zo).trans hu);rw[←Nat.add_assoc]at this;exact this
section
open Go.RowKit Go.ChangeShapes Go.WideShapes Go.ChangeAt Go.Deep
section
variable {H : Type} {enc : TypeId × Value → H} {W : World} {base : Nat} {held : Bool}
theorem qnx {P:Program}{e:TypeId}:∀{l:List (DataW H)} {d:DataW H},d∈l→∀n∈d.weights P e,n∈DataW.weightsAll P e l
 |d'::r,d,hd,n,hn=>by
  simp only[DataW.weightsAll,tBg];rcases List.mem_cons.1 hd with rfl|h
  · exact Or.inl hn
  exact Or.inr (qnx h n hn)
theorem qny{x:DataW H × List MemPlace}(h:DataW.trod enc Tryz.prog W base (fun _=>true) held fuel 23 cs=some x)(hM:∀n∈x.1.weights Tryz.prog 23,n≤reachBytes):
 ∃(A:Option Addr) (c:Nat) (bs:List Nat),cs=[.slice A bs.length c]∧bs.length≤c∧c≤reachBytes∧(∀b∈bs,b<256)∧Reads W W.heap.size 1 A bs.length (byv bs):=by
 obtain⟨A,c,bs,h1,h2,h3,h4,h5⟩:=qeq h;refine⟨A,c,bs,h1,h2,?_,h4,h5⟩;rcases open_ints Tryz.underlying23 Tryz.underlying5 zk h with⟨hcs,_⟩|⟨a,l,c',zs,hcs,_,hl,hm,hz,hx,hcell,hwz⟩
 · rw[hcs]at h1
   injection h1 with h1;injection h1 with e1 e2 e3;subst e3;decide
 rw[hcs]at h1;injection h1 with h1;injection h1 with e1 e2 e3;subst e3;refine hM c' ?_;rw[hx];unfold DataW.weights;rw[Tryz.underlying23];have hby:(Tryz.prog).bytesOf 5=1:=by kernel_rfl
 simp only[lits,tBl,tBd,tBk,hby];have hz':zs.length=c':=by simpa using hz
 rw[show (min l zs.length+(zs.length - l))*1=c' from by omega];exact List.mem_cons_self ..
theorem qnz{x:DataW H × List MemPlace}(h:DataW.trod enc Tryz.prog W base (fun _=>true) held fuel 34 cs=some x)(hM:∀n∈x.1.weights Tryz.prog 34,n≤reachBytes):
 ∃A n c,cs[47]? =some (.slice A n c)∧c≤reachBytes:=by
 obtain⟨xs,n,-,hx0,hlen,hxl,hf⟩:=DataW.trod_struct Tryz.underlying34 h;have c5:(Tryz.prog).cellsOf 23=1:=by kernel_rfl
 obtain⟨y14,h14⟩:=qeu (xs:=xs) (i:=14) (by rw[hxl];decide);have g14:=(hf 14 _ rfl).trans h14;simp only[List.getElem_toArray,List.getElem_cons_zero,List.getElem_cons_succ]at g14;rw[c5]at g14;obtain⟨A,c,bs,e1,e2,e3,e4,e5⟩:=qny g14 (fun n hn=>hM n (by
  rw[hx0];unfold DataW.weights;rw[Tryz.underlying34];exact DataW.weights_mem_each (j:=14) rfl (by rw[tBj,h14];rfl) n hn))
 refine⟨A,bs.length,c,?_,e3⟩;have:=congrArg (·[0]?) e1;simpa [List.getElem?_drop,List.getElem?_take] using this
theorem qo0{x:DataW H × List MemPlace}(h:DataW.trod enc Tryz.prog W base (fun _=>true) held fuel 44 cs=some x)(hM:∀n∈x.1.weights Tryz.prog 44,n≤reachBytes):
 ∃S,StpR W cs S∧S.raw.length≤140737488351232:=by
 obtain⟨xs,n,-,hx0,hlen,hxl,hf⟩:=DataW.trod_struct Tryz.underlying44 h;have c0:(Tryz.prog).cellsOf 3=1:=by kernel_rfl
 have c1:(Tryz.prog).cellsOf 34=48:=by kernel_rfl
 have c2:(Tryz.prog).cellsOf 27=1:=by kernel_rfl
 have c3:(Tryz.prog).cellsOf 22=1:=by kernel_rfl
 have c4:(Tryz.prog).cellsOf 23=1:=by kernel_rfl
 have c5:(Tryz.prog).cellsOf 44=53:=by kernel_rfl
 rw[c5]at hlen;have hx:∀i,i<6→∃y,xs[i]? =some y:=fun i hi=>qeu (by rw[hxl];exact hi)
 obtain⟨y0,h0⟩:=hx 0 zo;obtain⟨y1,h1⟩:=hx 1 zo;obtain⟨y2,h2⟩:=hx 2 zo;obtain⟨y3,h3⟩:=hx 3 zo;obtain⟨y4,h4⟩:=hx 4 zo;obtain⟨y5,h5⟩:=hx 5 zo;have g0:=(hf 0 _ rfl).trans h0;have g1:=(hf 1 _ rfl).trans h1;have g2:=(hf 2 _ rfl).trans h2;have g3:=(hf 3 _ rfl).trans h3;have g4:=(hf 4 _ rfl).trans h4;have g5:=(hf 5 _ rfl).trans h5;simp only[List.getElem_toArray,List.getElem_cons_zero,List.getElem_cons_succ]at g0 g1 g2 g3 g4 g5;rw[c0]at g0 g2;rw[c1]at g1;rw[c2]at g3;rw[c3]at g4;rw[c4]at g5;have mem:∀(j:Nat) (t:TypeId) (y:DataW H × List MemPlace),([3,34,3,27,22,23]:List TypeId)[j]? =some t→xs[j]? =some y→∀n∈y.1.weights Tryz.prog t,n≤reachBytes:=fun j t y ht hy n hn=>hM n (by
  rw[hx0];unfold DataW.weights;rw[Tryz.underlying44];exact DataW.weights_mem_each (j:=j) ht (by rw[tBj,hy];rfl) n hn)
 obtain⟨kind,e0,-,w0⟩:=DataW.trod_int Tryz.underlying3 g0;obtain⟨R,Ac,cc,Al,cl,e1,r1,r2,r3,r4,r5,r6,r7,r8⟩:=qew g1;obtain⟨who,e2,-,w2⟩:=DataW.trod_int Tryz.underlying3 g2;obtain⟨Ak,ck,cavs,e3,k1,k2,k3,k4,k5,k6⟩:=qes g3;obtain⟨N,e4,-,w4⟩:=DataW.trod_int Tryz.underlying22 g4;obtain⟨Ar,cr,raw,e5,q1,q2,q3,q4⟩:=qny g5 (mem 5 _ _ rfl h5);obtain⟨A',n',c',l1,l2⟩:=qnz g1 (mem 1 _ _ rfl h1);have hl:(reqv R (.slice Ac R.cavs.length cc) (.slice Al R.leaf.length cl))[47]? =some (.slice Al R.leaf.length cl):=(qdk R _ _ r1.tag 12).trans rfl;rw[e1,hl]at l1;injection l1 with l1;injection l1 with l11 l12 l13;subst l13;have h8:=r8 reachBytes (mem 1 _ _ rfl h1);have er:reachBytes=140737488351232:=rfl;rw[er]at h8 l2;refine⟨⟨kind,R,who,cavs,N.toNat,raw⟩,⟨Ac,cc,Al,cl,Ak,ck,Ar,cr,?_,r1,⟨r2,r3,r6,by show R.cavs.length*16≤140737488351232;omega⟩,⟨r4,r5,r7,by show R.leaf.length≤140737488351232;omega⟩,⟨k1,k2,k5,k3,k4⟩,⟨q1,by simp only[reachBytes]at q2;simp only[maxLen];omega,q4,q3⟩,(qem w4).2,w0,w2⟩,by rw[er]at q2;exact tB1 q1 q2⟩;have:cs=(cs.drop 0).take 1++((cs.drop 1).take 48++((cs.drop 49).take 1++((cs.drop 50).take 1++((cs.drop 51).take 1++((cs.drop 52).take 1++cs.drop 53))))):=by
  rw[←qet cs 52 1,←qet cs 51 1,←qet cs 50 1,←qet cs 49 1,←qet cs 1 48,←qet cs 0 1];rfl
 rw[this,e0,e1,e2,e3,e4,e5,List.drop_eq_nil_of_le zo];simp[stpv,(qem w4).1]
theorem qo1{x:DataW H × List MemPlace}(h:DataW.trod enc Tryz.prog W base (fun _=>true) held fuel 26 cs=some x)(hM:∀n∈x.1.weights Tryz.prog 26,n≤reachBytes):
 ∃(A:Option Addr) (c:Nat) (l:List Stp),cs=[.slice A l.length c]∧l.length≤c∧c≤maxLen∧StpsR W A l∧∀S∈l,S.raw.length≤140737488351232:=by
 have ce:(Tryz.prog).cellsOf 44=53:=by kernel_rfl
 rcases open_slice Tryz.underlying26 h with⟨hcs,_⟩|⟨a,len,c,m,n,D,Pl,hcs,_,hl,hm,hmm,hx0,hel⟩
 · exact⟨none,0,[],hcs,tA4 _,by simp[maxLen],⟨[],rfl,fun c h=>(nomatch h),fun i S h=>by simp at h,Reads.none_⟩,fun S h=>(nomatch h)⟩
 have hmc:m=c:=by simpa using hmm
 have each:∀i,i<len→∃p:Stp × List Value,(StpR W p.2 p.1∧p.1.raw.length≤140737488351232)∧p.2.length=53∧∀j u,p.2[j]? =some u→W.cell? (a.add (i*53+j))=some u:=fun i hi=>by
  obtain⟨cs',h1,h2⟩:=hel i zo;rw[ce]at h1;obtain⟨_,hlen,hcell⟩:=World.cells?_some h1;obtain⟨S,hS⟩:=qo0 h2 (fun n hn=>hM n (by
   rw[hx0];unfold DataW.weights;rw[Tryz.underlying26];simp only[List.mem_cons,tBg];exact .inr (.inl (qnx (List.mem_map.2 ⟨i,List.mem_range.2 hi,rfl⟩) n hn))))
  refine⟨(S,cs'),hS,hlen,fun j u hu=>?_⟩;dsimp only at hu;have hj:j<53:=by
   have:=(tA8 hu).1;omega
  have:=hcell j hj;rw[add_add]at this;rw[this];exact hu
 obtain⟨q,hq⟩:=choose_lt each;have hlen53:∀c∈(List.range len).map (fun i=>(q i).2),c.length=53:=fun c hc=>by
  obtain⟨i,hi,rfl⟩:=List.mem_map.1 hc;exact(hq i (List.mem_range.1 hi)).2.1
 refine⟨some a,c,(List.range len).map fun i=>(q i).1,by rw[tBl,List.length_range];exact hcs,by rw[tBl,List.length_range];exact hl,hm,⟨(List.range len).map fun i=>(q i).2,by simp,hlen53,fun i S hi=>?_,?_⟩,fun S hS=>by
  obtain⟨i,hi,rfl⟩:=List.mem_map.1 hS;exact(hq i (List.mem_range.1 hi)).1.2⟩
 · obtain⟨hi',e⟩:=tA8 hi
   rw[tBl,List.length_range]at hi';simp at e;subst e;exact⟨(q i).2,by simp[hi'],(hq i hi').1.1⟩
 rw[tBl,List.length_range];refine⟨by rw[qnh hlen53];simp,fun hn=>⟨a,rfl,?_,fun j u hu=>?_⟩⟩
 · have hq0:=hq 0 hn
   have hc:=hq0.2.2 0 _ (tA7 (by rw[hq0.2.1];decide));have hb:=World.block_lt_of_cell? _ _ hc;rwa[qa1]at hb
 have hj:j<len*53:=by
  have:=(tA8 hu).1;rw[qnh hlen53]at this;simpa using this
 have hi:j / 53<len:=zo;have e:((List.range len).map fun i=>(q i).2)[j / 53]? =some (q (j / 53)).2:=by simp[hi]
 have h1:=qng (j:=j % 53) hlen53 e (Nat.mod_lt _ zdc);rw[show j / 53*53+j % 53=j by omega]at h1;have:=(hq (j / 53) hi).2.2 (j % 53) u (by rw[←h1];exact hu);rwa[show j / 53*53+j % 53=j by omega]at this
theorem qo2{x:DataW H × List MemPlace}(h:DataW.trod enc Tryz.prog W base (fun _=>true) held fuel 25 cs=some x)(hM:∀n∈x.1.weights Tryz.prog 25,n≤reachBytes):
 ∃(c:Cfg) (A:Option Addr) (k:Nat),cs=[.int .i64 c.width,.int .i64 c.quantum,.int .u32 (c.store:Int),.slice A c.seed.length k]∧(Lit.int .i64 c.width).wf=true∧(Lit.int .i64 c.quantum).wf=true∧c.store<4294967296∧c.seed.length≤k∧k≤reachBytes∧(∀b∈c.seed,b<256)∧Reads W W.heap.size 1 A c.seed.length (byv c.seed):=by
 obtain⟨xs,n,-,hx0,hlen,hxl,hf⟩:=DataW.trod_struct Tryz.underlying25 h;have c0:(Tryz.prog).cellsOf 3=1:=by kernel_rfl
 have c3:(Tryz.prog).cellsOf 22=1:=by kernel_rfl
 have c4:(Tryz.prog).cellsOf 23=1:=by kernel_rfl
 have c5:(Tryz.prog).cellsOf 25=4:=by kernel_rfl
 rw[c5]at hlen;have hx:∀i,i<4→∃y,xs[i]? =some y:=fun i hi=>qeu (by rw[hxl];exact hi)
 obtain⟨y0,h0⟩:=hx 0 zo;obtain⟨y1,h1⟩:=hx 1 zo;obtain⟨y2,h2⟩:=hx 2 zo;obtain⟨y3,h3⟩:=hx 3 zo;have g0:=(hf 0 _ rfl).trans h0;have g1:=(hf 1 _ rfl).trans h1;have g2:=(hf 2 _ rfl).trans h2;have g3:=(hf 3 _ rfl).trans h3;simp only[List.getElem_toArray,List.getElem_cons_zero,List.getElem_cons_succ]at g0 g1 g2 g3;rw[c0]at g0 g1;rw[c3]at g2;rw[c4]at g3;obtain⟨wd,e0,-,w0⟩:=DataW.trod_int Tryz.underlying3 g0;obtain⟨qu,e1,-,w1⟩:=DataW.trod_int Tryz.underlying3 g1;obtain⟨st,e2,-,w2⟩:=DataW.trod_int Tryz.underlying22 g2;obtain⟨A,k,seed,e3,q1,q2,q3,q4⟩:=qny g3 (fun n hn=>hM n (by
  rw[hx0];unfold DataW.weights;rw[Tryz.underlying25];exact DataW.weights_mem_each (j:=3) rfl (by rw[tBj,h3];rfl) n hn))
 refine⟨⟨wd,qu,st.toNat,seed⟩,A,k,?_,w0,w1,(qem w2).2,q1,q2,q3,q4⟩;have:cs=(cs.drop 0).take 1++((cs.drop 1).take 1++((cs.drop 2).take 1++((cs.drop 3).take 1++cs.drop 4))):=by
  rw[←qet cs 3 1,←qet cs 2 1,←qet cs 1 1,←qet cs 0 1];rfl
 rw[this,e0,e1,e2,e3,List.drop_eq_nil_of_le zo];simp[(qem w2).1]
end
end
structure Cfg.Ok (c:Cfg):Prop where
 w1:1≤c.width
 w2:c.width≤32
 q1:1≤c.quantum
 q2:c.quantum≤2
 store:c.store≤32768
 seed:c.seed.length≤64
 seedb:∀x∈c.seed,x<256
structure Ten.Ok (x:Ten):Prop where
 rate:x.rate≤1048576
 burst:x.burst≤1048576
 tok:x.tok≤x.burst
 store:x.store<4294967296
 used:x.used<4294967296
def LeafOk (b:List Nat):Prop:=b.length≤400∧∀x∈b,x<256
structure Tre.Ok (t:Tre):Prop where
 state:0≤t.state∧t.state≤4
 tenant:0≤t.tenant∧t.tenant<16
 weight:0≤t.weight∧t.weight≤4
 deficit:t.deficit=0
 live:t.state≠0→1≤t.weight∧t.draws≠[]
 draws:t.draws.length≤32
 drawb:∀x∈t.draws,x<4294967296
 leaves:t.leaves.length+t.queue.length≤1024
 leafb:∀b∈t.leaves,LeafOk b
 queue:t.queue.length≤64
 queueb:∀b∈t.queue,LeafOk b
 hd:t.hd.Ok
 hdt:0≤t.hd.tree∧t.hd.tree<16
 hde:0≤t.hd.epoch∧t.hd.epoch<32
 hds:t.hd.size≤t.leaves.length
structure Gra.Ok (g:Gra):Prop where
 tenant:0≤g.tenant∧g.tenant<16
 role:1≤g.role∧g.role≤4
 expires:g.expires<18446744073709551616
structure Sta.Ok (s:Sta):Prop where
 clock:s.clock<18446744073709551616
 draw:s.draw<4294967296
 lane:0≤s.lane∧s.lane<16
 tensn:s.tens.length=16
 tresn:s.tres.length=16
 grasn:s.gras.length≤64
 tens:∀x∈s.tens,x.Ok
 tres:∀t∈s.tres,t.Ok
 gras:∀g∈s.gras,g.Ok
 owner:s.gras[0]? =some ⟨0,4,18446744073709551615,false⟩
 first:∃t,s.tres[0]? =some t∧t.state=1∧t.queue=[]
theorem qo3 {α:Type}{f:α→α}:∀{l:List α} {n:Nat} {x:α},x∈l.modify n f→x∈l∨∃y,l[n]? =some y∧x=f y
 |[],n,x,h=>by simp at h
 |a::l,0,x,h=>by
  rw[List.modify_zero_cons]at h;rcases List.mem_cons.1 h with rfl|h
  · exact .inr ⟨a,rfl,rfl⟩
  exact .inl (List.mem_cons_of_mem _ h)
 |a::l,n+1,x,h=>by
  rw[List.modify_succ_cons]at h;rcases List.mem_cons.1 h with rfl|h
  · exact .inl zm
  rcases qo3 h with h|⟨y,h1,h2⟩
  · exact .inl (List.mem_cons_of_mem _ h)
  exact .inr ⟨y,by simpa using h1,h2⟩
theorem qo4{α:Type}{P:α→Prop}{f:α→α}{l:List α}(h:∀x∈l,P x)(hf:∀x,l[n]? =some x→P x→P (f x)):∀x∈l.modify n f,P x:=by
 intro x hx;rcases qo3 hx with h1|⟨y,h1,rfl⟩
 · exact h x h1
 exact hf y h1 (h y (tB2 h1))
theorem Sta.Ok.tre(h:s.Ok)(ht:s.tres[n]? =some t):t.Ok:=h.tres t (tB2 ht)
theorem Sta.Ok.ten(h:s.Ok){x:Ten}(hx:s.tens[n]? =some x):x.Ok:=h.tens x (tB2 hx)
theorem Sta.Ok.gra(h:s.Ok){g:Gra}(hg:s.gras[n]? =some g):g.Ok:=h.gras g (tB2 hg)
theorem Ten.zero_ok:Ten.zero.Ok:=⟨by decide,by decide,by decide,by decide,by decide⟩
theorem Tre.zero_ok:Tre.zero.Ok:=
 ⟨by decide,by decide,by decide,rfl,fun h=>absurd rfl h,by decide,fun x h=>(nomatch h),by decide,fun x h=>(nomatch h),by decide,fun x h=>(nomatch h),Hd.zero_Ok,by decide,by decide,by decide⟩
theorem Sta.Ok.setT(h:s.Ok){f:Tre→Tre}(hf:∀t,s.tres[n]? =some t→t.Ok→(f t).Ok)(h0:n=0→∀t,s.tres[0]? =some t→t.state=1→t.queue=[]→(f t).state=1∧(f t).queue=[]):(s.setT n f).Ok:=by
 refine⟨h.clock,h.draw,h.lane,h.tensn,by simp[Sta.setT,h.tresn],h.grasn,h.tens,qo4 h.tres hf,h.gras,h.owner,?_⟩;obtain⟨t,h1,h2,h3⟩:=h.first;by_cases e:n=0
 · subst e
   obtain⟨h4,h5⟩:=h0 rfl t h1 h2 h3;exact⟨f t,by simp[Sta.setT,List.getElem?_modify,h1],h4,h5⟩
 exact⟨t,by simp[Sta.setT,List.getElem?_modify,h1,e],h2,h3⟩
theorem Sta.Ok.setX(h:s.Ok){f:Ten→Ten}(hf:∀x,s.tens[n]? =some x→x.Ok→(f x).Ok):(s.setX n f).Ok:=
 ⟨h.clock,h.draw,h.lane,by simp[Sta.setX,h.tensn],h.tresn,h.grasn,qo4 h.tens hf,h.tres,h.gras,h.owner,h.first⟩
theorem qo5(w:Nat)(b:List Nat)(hw:w≤32):(sumH w b).length=32:=qg3 (qja b) hw
theorem qo6(w:Nat)(b:List Nat):∀x∈sumH w b,x<256:=qg4 (qjb b)
theorem qo7(w:Nat)(hw:w≤32):∀(l:List (List Nat)),(qfs w l).length=32∧∀x∈qfs w l,x<256:=by
 intro l;by_cases h:l.length≤1
 · match l,h with
   |[],_=>rw[qft];exact⟨qo5 _ _ hw,qo6 _ _⟩
   |[b],_=>rw[qfu];exact⟨qo5 _ _ hw,qo6 _ _⟩
   |_::_::_,h=>simp at h
 rw[qfv w zo];exact⟨qo5 _ _ hw,qo6 _ _⟩
theorem qo8(c:Cfg)(clock n:Nat)(t:Tre)(hc:clock<18446744073709551616)(ht:t.leaves.length<18446744073709551616):(pubT c clock n t).Ok:=by
 obtain⟨h1,h2⟩:=qo7 (cutW c.width) (qfo _).2 t.leaves;exact⟨ht,hc,h1,h2,qjz _ _,qk1 _ _⟩
theorem Tre.Ok.pub(h:t.Ok)(c:Cfg)(clock n:Nat)(hc:clock<18446744073709551616)(hn:n<16):{t with hd:=pubT c clock n t:Tre}.Ok:=by
 have hd:=h.draws;have hl:=h.leaves;exact {h with hd:=qo8 c clock n t hc zo,hdt:=⟨by simp[pubT,signed];try omega,by simp[pubT,signed];try omega⟩,hde:=⟨by simp[pubT,signed];try omega,by simp[pubT,signed];try omega⟩,hds:=by simp[pubT,signed]}
theorem Sta.Ok.pub(h:s.Ok)(c:Cfg)(hn:n<16):(s.pub c n).Ok:=
 h.setT (n:=n) (f:=fun t=>{t with hd:=pubT c s.clock n t}) (fun t _ ht=>ht.pub c _ n h.clock hn) (fun _ t _ h1 h2=>⟨h1,h2⟩)
theorem qo9{α:Type}{l:List α}{x:α}(f:α→α)(h:l[n]? =some x):(l.modify n f)[n]? =some (f x):=by rw[List.getElem?_modify,h];simp
theorem qoa{α:Type}(l:List α)(f:α→α)(h:n≠i):(l.modify n f)[i]? =l[i]? :=by rw[List.getElem?_modify];simp[h]
def mdlv (c:Cfg)(s:Sta)(L:Loc):Array Value:=#[.int .i64 c.width,.int .i64 c.quantum,.int .u32 (c.store:Int),.slice L.sa L.sn L.sc,.int .u64 (s.clock:Int),.int .u32 (s.draw:Int),.int .i64 s.lane,.slice (some ⟨L.tg,0,none⟩) 16 L.tc,.slice (some ⟨L.rg,0,none⟩) 16 L.rc,.slice (some ⟨L.gg,0,none⟩) s.gras.length L.gc]
structure Mdl (w:World)(col:Col)(k g:Nat)(c:Cfg)(s:Sta)(L:Loc)(css:List (List Value)):Prop where
 blk:Blk w g 117 (mdlv c s L)
 own:col g=1
 base:3≤w.heap.size∧∀b,b<3→col b=0
 fin:Fin_ col w
 seed:TextC w col (.slice L.sa L.sn L.sc) c.seed
 st:StAt 92 74 66 w col k L css s
def Kind (k:Nat):Prop:=k=2∨k=6
section
variable {w w' : World} {col col' : Col} {k g : Nat} {c : Cfg} {s s' : Sta} {L : Loc} {css : List (List Value)}
theorem Mdl.keep{p:Nat→Bool}(h:Mdl w col k g c s L css)(ht:Turns p w col w' col')(h1:p 1=false)(h5:p 5=false)(hk:p k=false)(hk1:p (k+1)=false)(hk2:p (k+2)=false)(hp:∀i,10≤i→p i=false)(hf:Fin_ col' w'):Mdl w' col' k g c s L css:=
 ⟨(ht.block g h.blk.lt (by rw[h.own];exact h1)).trans h.blk,(ht.same g h.blk.lt).trans h.own,⟨tB1 h.base.1 ht.size,fun b hb=>(ht.same b (tB0 hb h.base.1)).trans (h.base.2 b hb)⟩,hf,h.seed.keep (ht.keeps h5),h.st.keep (ht.keeps hk) (ht.keeps hk1) (ht.keeps hk2) fun i hi=>ht.keeps (by rcases hi with rfl|hi;exact h5;exact hp i hi)⟩
theorem Mdl.call(h:Mdl w col k g c s L css)(hb:Zb w w'):Mdl w' col k g c s L css:=
 h.keep (Turns.of_below (fun _=>false) hb) rfl rfl rfl rfl rfl (fun _ _=>rfl) (h.fin.mono hb.size)
theorem Mdl.seedR(h:Mdl w col k g c s L css):Reads w w.heap.size 1 L.sa L.sn (byv c.seed):=by
 obtain⟨A,n,m,e,_,_,hr,_⟩:=h.seed;injection e with e1 e2 e3;subst e1 e2;exact hr
theorem Mdl.own1(h:Mdl w col k g c s L css)(hk:Kind k)(i:Nat)(u:Value)(e:(mdlv c s L).setIfInBounds i u=mdlv c s' L)(ht:s'.tens=s.tens)(hr:s'.tres=s.tres)(hg:s'.gras=s.gras):Mdl (w.setCell ⟨g,i,none⟩ u) col k g c s' L css:=by
 have hT:Turns (· ==1) w col (w.setCell ⟨g,i,none⟩ u) col:=Turns.setCell u (by simp[h.own]);refine⟨?_,h.own,⟨tB1 h.base.1 hT.size,h.base.2⟩,h.fin.mono hT.size,h.seed.keep (hT.keeps rfl),?_⟩
 · rw[←e]
   exact h.blk.set_ i u
 have h2:=h.st.keep (w':=w.setCell ⟨g,i,none⟩ u) (col':=col) (hT.keeps (by rcases hk with rfl|rfl<;>rfl)) (hT.keeps (by rcases hk with rfl|rfl<;>rfl)) (hT.keeps (by rcases hk with rfl|rfl<;>rfl)) (fun i hi=>hT.keeps (by simp;omega));exact⟨by rw[ht];exact h2.tens,h2.tres,by rw[hg];exact h2.gras,by rw[hr];exact h2.trs⟩
theorem Mdl.treOver(h:Mdl w col k g c s L css)(hk:Kind k)(hs:s.Ok)(ht:s.tres[n]? =some t)(f:Tre→Tre)(hj:j+cs.length≤75)
 (hf:∀vd vl vq,over (trev t vd vl vq) j cs=trev (f t) vd vl vq)(hd:(f t).draws=t.draws)(hl:(f t).leaves=t.leaves)(hq:(f t).queue=t.queue):
 Mdl (w.setCells L.rg (n*75+j) cs) col k g c (s.setT n f) L (css.modify n fun x=>over x j cs):=by
 obtain⟨hn,_⟩:=tA8 ht;have hlen:=h.st.trs.lens (fun t ht=>(hs.tres t ht).hd);have hcl:css.length=16:=by rw[h.st.trs.1,hs.tresn]
 have hn16:n<16:=by rw[←hs.tresn];exact hn
 have hfl:css.flatten.length=1200:=by rw[qnh hlen,hcl]
 have hT:Turns (· ==k+1) w col (w.setCells L.rg (n*75+j) cs) col:=Turns.setCells cs (by simp[h.st.tres.1]);have k1:∀i,i≠k+1→KeepsCol i w col (w.setCells L.rg (n*75+j) cs) col:=fun i hi=>hT.keeps (by simpa using hi)
 have hne:g≠L.rg:=by
  intro e;have a:=h.own;rw[e,h.st.tres.1]at a;rcases hk with rfl|rfl<;>cases a
 refine⟨?_,h.own,⟨tB1 h.base.1 hT.size,h.base.2⟩,h.fin.mono hT.size,h.seed.keep (k1 5 (by rcases hk with rfl|rfl<;>decide)),?_,?_,?_,?_⟩
 · exact h.blk.grown (qn9 L.rg cs _ w) (by intro e;injection e with e;exact hne e)
 · exact h.st.tens.keep (k1 k zo)
 · have:=h.st.tres.over (o:=n*75+j) (cs:=cs) (by rw[hfl];omega)
   rwa[qni cs hlen (by rw[hcl];exact hn16) hj]at this
 · exact h.st.gras.keep (k1 (k+2) zo)
 refine⟨by rw[List.length_modify,h.st.trs.1];simp[Sta.setT],fun i t' ht'=>?_⟩;by_cases e:n=i
 ·
  subst e;rw[show (s.setT n f).tres=s.tres.modify n f from rfl,qo9 f ht]at ht';injection ht' with ht';subst ht';obtain⟨c0,h1,vd,vl,vq,e1,r1,r2,r3⟩:=h.st.trs.2 n t ht;refine⟨over c0 j cs,qo9 _ h1,vd,vl,vq,by rw[e1];exact hf vd vl vq,?_,?_,?_⟩
  · rw[hd];exact r1.keep (k1 _ (by rcases hk with rfl|rfl<;>omega))
  · rw[hl];exact r2.keep (k1 _ (by rcases hk with rfl|rfl<;>omega)) (k1 5 (by rcases hk with rfl|rfl<;>decide))
  rw[hq];exact r3.keep (k1 _ (by rcases hk with rfl|rfl<;>omega)) (k1 5 (by rcases hk with rfl|rfl<;>decide))
 rw[show (s.setT n f).tres=s.tres.modify n f from rfl,qoa _ f e]at ht';obtain⟨c0,h1,h2⟩:=h.st.trs.2 i t' ht';exact⟨c0,by rw[qoa _ _ e];exact h1,h2.keep fun i hi=>k1 i (by rcases hk with rfl|rfl<;>omega)⟩
theorem Mdl.tenOver(h:Mdl w col k g c s L css)(hk:Kind k)(hs:s.Ok){x:Ten}(hx:s.tens[n]? =some x)(f:Ten→Ten)(hj:j+cs.length≤6)
 (hf:over (tenv x) j cs=tenv (f x)):Mdl (w.setCells L.tg (n*6+j) cs) col k g c (s.setX n f) L css:=by
 obtain⟨hn,_⟩:=tA8 hx;have hn16:n<16:=by rw[←hs.tensn];exact hn
 have hT:Turns (· ==k) w col (w.setCells L.tg (n*6+j) cs) col:=Turns.setCells cs (by simp[h.st.tens.1]);have k1:∀i,i≠k→KeepsCol i w col (w.setCells L.tg (n*6+j) cs) col:=fun i hi=>hT.keeps (by simpa using hi)
 have hne:g≠L.tg:=by
  intro e;have a:=h.own;rw[e,h.st.tens.1]at a;rcases hk with rfl|rfl<;>cases a
 refine⟨?_,h.own,⟨tB1 h.base.1 hT.size,h.base.2⟩,h.fin.mono hT.size,h.seed.keep (k1 5 (by rcases hk with rfl|rfl<;>decide)),?_,h.st.tres.keep (k1 _ zo),h.st.gras.keep (k1 _ zo),h.st.trs.keep fun i hi=>k1 i (by rcases hk with rfl|rfl<;>omega)⟩
 · exact h.blk.grown (qn9 L.tg cs _ w) (by intro e;injection e with e;exact hne e)
 have:=h.st.tens.over (o:=n*6+j) (cs:=cs) (by rw[qnq,hs.tensn];omega);rwa[qns hn hj (fun y hy=>by rw[hx]at hy;injection hy with hy;subst hy;exact hf)]at this
theorem Mdl.graOver(h:Mdl w col k g c s L css)(hk:Kind k){x:Gra}(hx:s.gras[n]? =some x)(f:Gra→Gra)(hj:j+cs.length≤4)
 (hf:over (grav x) j cs=grav (f x)):Mdl (w.setCells L.gg (n*4+j) cs) col k g c {s with gras:=s.gras.modify n f} L css:=by
 obtain⟨hn,_⟩:=tA8 hx;have hT:Turns (· ==k+2) w col (w.setCells L.gg (n*4+j) cs) col:=Turns.setCells cs (by simp[h.st.gras.1]);have k1:∀i,i≠k+2→KeepsCol i w col (w.setCells L.gg (n*4+j) cs) col:=fun i hi=>hT.keeps (by simpa using hi)
 have hne:g≠L.gg:=by
  intro e;have a:=h.own;rw[e,h.st.gras.1]at a;rcases hk with rfl|rfl<;>cases a
 refine⟨?_,h.own,⟨tB1 h.base.1 hT.size,h.base.2⟩,h.fin.mono hT.size,h.seed.keep (k1 5 (by rcases hk with rfl|rfl<;>decide)),h.st.tens.keep (k1 _ zo),h.st.tres.keep (k1 _ zo),?_,h.st.trs.keep fun i hi=>k1 i (by rcases hk with rfl|rfl<;>omega)⟩
 · have hb:=h.blk.grown (qn9 L.gg cs (n*4+j) w) (by intro e;injection e with e;exact hne e)
   unfold mdlv at hb ⊢;simpa using hb
 have:=h.st.gras.over (o:=n*4+j) (cs:=cs) (by rw[qnr];omega);rw[qnt hn hj (fun y hy=>by rw[hx]at hy;injection hy with hy;subst hy;exact hf)]at this;simpa using this
theorem Mdl.stRange(h:Mdl w col k g c s L css):w.rangeAt g 4 [.int .u64 (s.clock:Int),.int .u32 (s.draw:Int),.int .i64 s.lane,.slice (some ⟨L.tg,0,none⟩) 16 L.tc,.slice (some ⟨L.rg,0,none⟩) 16 L.rc,.slice (some ⟨L.gg,0,none⟩) s.gras.length L.gc]:=
 qap (l:=(mdlv c s L).toList) (by simpa using h.blk) 4 _ (fun j u hu=>by
  match j,hu with
  |0,hu=>exact hu
  |1,hu=>exact hu
  |2,hu=>exact hu
  |3,hu=>exact hu
  |4,hu=>exact hu
  |5,hu=>exact hu
  |j+6,hu=>simp at hu)
theorem Mdl.cfgRange(h:Mdl w col k g c s L css):w.rangeAt g 0 [.int .i64 c.width,.int .i64 c.quantum,.int .u32 (c.store:Int),.slice L.sa L.sn L.sc]:=
 qap (l:=(mdlv c s L).toList) (by simpa using h.blk) 0 _ (fun j u hu=>by
  match j,hu with
  |0,hu=>exact hu
  |1,hu=>exact hu
  |2,hu=>exact hu
  |3,hu=>exact hu
  |j+4,hu=>simp at hu)
theorem Mdl.c0(h:Mdl w col k g c s L css):w.cell? ⟨g,0,none⟩=some (.int .i64 c.width):=h.blk.cell 0
theorem Mdl.c1(h:Mdl w col k g c s L css):w.cell? ⟨g,1,none⟩=some (.int .i64 c.quantum):=h.blk.cell 1
theorem Mdl.c2(h:Mdl w col k g c s L css):w.cell? ⟨g,2,none⟩=some (.int .u32 (c.store:Int)):=h.blk.cell 2
theorem Mdl.c4(h:Mdl w col k g c s L css):w.cell? ⟨g,4,none⟩=some (.int .u64 (s.clock:Int)):=h.blk.cell 4
theorem Mdl.c5(h:Mdl w col k g c s L css):w.cell? ⟨g,5,none⟩=some (.int .u32 (s.draw:Int)):=h.blk.cell 5
theorem Mdl.c6(h:Mdl w col k g c s L css):w.cell? ⟨g,6,none⟩=some (.int .i64 s.lane):=h.blk.cell 6
theorem Mdl.c7(h:Mdl w col k g c s L css):w.cell? ⟨g,7,none⟩=some (.slice (some ⟨L.tg,0,none⟩) 16 L.tc):=h.blk.cell 7
theorem Mdl.c8(h:Mdl w col k g c s L css):w.cell? ⟨g,8,none⟩=some (.slice (some ⟨L.rg,0,none⟩) 16 L.rc):=h.blk.cell 8
theorem Mdl.c9(h:Mdl w col k g c s L css):w.cell? ⟨g,9,none⟩=some (.slice (some ⟨L.gg,0,none⟩) s.gras.length L.gc):=h.blk.cell 9
theorem Tabs.turns{p:Nat→Bool}(h:Tabs w)(ht:Turns p w col w' col')(h0:p 0=false)(hb:3≤w.heap.size∧∀b,b<3→col b=0):Tabs w':=
 h.below (ht.below (B:=3) (fun b hb'=>by rw[hb.2 b hb'];exact h0) hb.1) (tA4 _)
theorem qob{p:Nat→Bool}{o:Nat}(h:w.cell? ⟨b,o,none⟩=some v)(ht:Turns p w col w' col')(h0:p (col b)=false):w'.cell? ⟨b,o,none⟩=some v:=
 (World.cell?_of_block (ht.block b (World.block_lt_of_cell? _ _ h) h0)).trans h
end
section
open Go
section
variable {P : Program} {Q : Exit → Act → World → Prop} {S : World → Prop} {n : Nat}
theorem qoc{r:List (Nat × Bool)}(hi:nth l i=some op)(hw:Region.wanted op (yielded l.toArray a.tmps)=true)
 (ty:TypeId)(x:Operand)(ho:op.op=.load ty x)(b o:Nat)(hx:a.eval x=.pointer (some ⟨b,o,none⟩))(cs:List Value)(d:TypeDesc)(hS:∀w,S w→w.rangeAt b o cs)
 (hu:P.underlying ty=some d)(hd:d.isRow=true)(hsz:(P.info? ty).map (·.size)=some cs.length)
 (h:qb9 P l.toArray Q S n r (a.put op.dst (.agg cs.toArray)) w):qb9 P l.toArray Q S n ((i,false)::r) a w:=
 ⟨op,_,(qb8 l i).symm.trans hi,yieldsIf_load_mid hw ty x ho b o hx cs d hS hu hd hsz,h⟩
end
end
theorem qod:∀x∈qme,x<256:=by decide
theorem qoe:∀x∈qmd,x<256:=by decide
theorem qof:∀x∈qmf,x<256:=by decide
theorem qog:qb0 1=1:=by decide
theorem qoh:qb0 4=4:=by decide
theorem qoi:qb0 8=8:=by decide
theorem qoj(seed:List Nat)(tree epoch draw:Nat)(A:Option Addr)(n c:Nat)(w:World)(hr:Reads w w.heap.size 1 A n (byv seed))(hs:∀x∈seed,x<256)(hn:n≤64)(ht:tree<4294967296)(he:epoch<4294967296)(hd:draw<4294967296)(hT:Tabs w):
 Zc 176 #[.slice A n c,.int .i64 (tree:Int),.int .i64 (epoch:Int),.int .u32 (draw:Int)] w fun e w'=>e=.returned (.agg (byv (keyOf seed tree epoch draw)).toArray)∧Zb w w':=by
 obtain⟨W0,hW0⟩:=eqx (w.alloc (.cells zLD 29));have z0:Blk W0 w.heap.size 29 (byv (List.replicate 32 0)).toArray:=by rw[hW0];exact Blk.new w _ _
 have b0:=zMa hW0;have q1:IntKind.u64.wrap (tree:Int)=(tree:Int):=tBa _ zo;have q2:IntKind.u64.wrap (epoch:Int)=(epoch:Int):=tBa _ zo;have q3:IntKind.u64.wrap (draw:Int)=(draw:Int):=tBa _ zo;obtain⟨A4,A1,A2,HR,HT,HS,A0⟩:=zh7 hW0 z0 b0 hr hT hs z0.lt;clear hW0 z0 b0 hr hT hs;go_enter Tryz.func176,Tryz.ntmps176
 go_wp2_with fail
 rw[←A4.o];refine(qd2 W0).mono ?_;rintro e w1 ⟨rfl,h1,b1⟩;obtain⟨hww1,Zw1,Bw1⟩:=zh3 h1 (A1.below b1 A1.lt) (A2.trans (b1.mono A2.size));clear h1 b1;go_wp2_with fail
 refine(qd1 _ _ (tree) 1 _ w1 hww1.o zo (by simp only[tA6,qaw,List.length_nil,qog,qoh,qoi];omega)).mono ?_;rintro e w2 ⟨rfl,hw2,bw2,-⟩;simp only[qog,qoh,qoi]at hw2;obtain⟨hww2,Zw2,Bw2⟩:=zh3 hw2 (Zw1.below bw2 (by first|exact A0.o|omega)) (Bw1.trans (bw2.mono (by first|exact Nat.le_of_lt A0.o|omega)));clear hw2 bw2;go_wp2_with fail
 refine(qd1 _ _ (epoch) 4 _ w2 hww2.o zo (by simp only[tA6,qaw,List.length_nil,qog,qoh,qoi];omega)).mono ?_;rintro e w3 ⟨rfl,hw3,bw3,-⟩;simp only[qog,qoh,qoi]at hw3;obtain⟨hww3,Zw3,Bw3⟩:=zh3 hw3 (Zw2.below bw3 (by first|exact A0.o|omega)) (Bw2.trans (bw3.mono (by first|exact Nat.le_of_lt A0.o|omega)));clear hw3 bw3;go_wp2_with fail
 refine(qd1 _ _ (draw) 4 _ w3 hww3.o zo (by simp only[tA6,qaw,List.length_nil,qog,qoh,qoi];omega)).mono ?_;rintro e w4 ⟨rfl,hw4,bw4,-⟩;simp only[qog,qoh,qoi]at hw4;obtain⟨hww4,Zw4,Bw4⟩:=zh3 hw4 (Zw3.below bw4 (by first|exact A0.o|omega)) (Bw3.trans (bw4.mono (by first|exact Nat.le_of_lt A0.o|omega)));clear hw4 bw4;have e4:(w4.alloc (.cells (byv qme).toArray 5)).heap[w4.heap.size]? =some (.cells (byv qme).toArray 5 (0,0)):=heap_alloc_new w4 _;go_wp2_with (refine wpList_plain rfl fun K9 hK9=>qk3 (.tmp 24) rfl w4.heap.size 3 3 rfl (byv qme).toArray e4 ?_)
 intro w5 g5 l5;refine hK9 _ _ ?_;have b45:Zb w4 w5:=((tA5 _ _).alloc (tA4 _) (.cells (byv qme).toArray 5)).grown g5 zm (by intro g hg;injection hg with hg;omega);obtain⟨hww5,Zw5,Bw5,R5⟩:=zh4 (hww4.kept_call b45) (Zw4.below b45 Zw4.lt) (Bw4.trans (b45.mono Bw4.size)) l5.reads;clear e4 g5 l5 b45;go_wp2_with fail
 refine(qd4 _ _ _ _ hww5.o (by simp only[tA6,qaw,List.length_nil];omega)).mono ?_;rintro e w6 ⟨v6,rfl,o6,b6⟩;replace o6:OwnB w6 w5.heap.size v6 (be tree 1++(be epoch 4++be draw 4)):=OwnB.cast (OwnB.of o6) (by simp only[List.append_assoc,List.nil_append]);obtain⟨A6,n6,c6,rfl,nc6,-,r6⟩:=o6.sl;have l6:=qb4 r6;obtain⟨Zw6,Bw6⟩:=zh2 (Zw5.below b6 Zw5.lt) (Bw5.trans (b6.mono Bw5.size));obtain⟨w7,hw7⟩:=eqx (w6.alloc (.cells #[.slice (some ⟨w4.heap.size,0,none⟩) 3 3,.slice A6 n6 c6] 23));have b67:=zMa hw7;have x0:w7.cell? ⟨w6.heap.size,0,none⟩=some (.slice (some ⟨w4.heap.size,0,none⟩) 3 3):=by rw[hw7];exact(qak w6 _ _ 0).trans rfl
 have x1:w7.cell? ⟨w6.heap.size,1,none⟩=some (.slice A6 n6 c6):=by rw[hw7];exact(qak w6 _ _ 1).trans rfl
 have J:=qje w6.heap.size 3 3 n6 c6 _ _ (qme) (be tree 1++(be epoch 4++be draw 4)) w7 x0 x1 ((R5.call b6).call b67) (r6.call b67) (by simp only[tA6,qaw]at l6;omega);obtain⟨HJ,A5,Zw7,Bw7⟩:=zh4 J hw7 (Zw6.below b67 Zw6.lt) (Bw6.trans (b67.mono Bw6.size));clear J x0 x1 b67 hw7 b6 r6 l6 nc6 o6;go_wp2_with fail
 rw[←A5.o];refine HJ.o.mono ?_;rintro e w8 ⟨v8,rfl,o8,b8⟩;obtain⟨A8,n8,c8,rfl,nc8,-,r8⟩:=o8.sl;have l8:=qb4 r8;obtain⟨Zw8,Bw8⟩:=zh2 (Zw7.below b8 Zw7.lt) (Bw7.trans (b8.mono Bw7.size));have M:=qjf n c n8 c8 A A8 seed (qme++(be tree 1++(be epoch 4++be draw 4))) w8 (HR.call Bw8.o) r8 HS.o (by
  intro x hx;simp only[tBg]at hx;rcases hx with h|h|h|h
  · exact qod x h
  · exact qaz _ _ x h
  · exact qaz _ _ x h
  exact qaz _ _ x h) hn (by have:=l8;simp only[tA6,qaw]at this;rw[←this];decide) (HT.below Bw8.o HT.size)
 have HM:=zh1 M;clear M r8 l8;go_wp2_with fail
 refine zcb HM.o fun w9 b9=>?_
 obtain⟨Z9,B9⟩:=zh2 (Zw8.below b9 Zw8.lt) (Bw8.trans (b9.mono Bw8.size));clear b9;obtain⟨X9,hX9⟩:=xeq (byv (mac seed (qme++(be tree 1++(be epoch 4++be draw 4)))));have lX9:X9.length=32:=by rw[←hX9,qat];exact qjz _ _
 have oX9:∀u∈X9,u.oneCell'=true:=by rw[←hX9];exact qau _
 try rw[hX9]
 obtain⟨A7,A9,AA,A3⟩:=zh4 hX9 lX9 oX9 (zI 29 lX9);clear hX9 lX9 oX9;go_wp2_with (refine zst Z9.o A3.o (by simp[A9.o,qat]) AA.o ?_)
 have z9:=Z9.setRow X9.toArray;have AB:=qap z9 0 X9 zjq;exact zrt AB zu29 A3.o ⟨(by rw[←A7.o];try rfl),below_setRow B9.o (by first|omega|exact tA4 _) _⟩
def hd0v (h:Hd):List Value:=.int .i64 h.tree::.int .i64 h.epoch::.int .u64 (h.size:Int)::.int .u64 (h.clock:Int)::byv h.root
theorem qok(h:Hd)(w:World)(ht:0≤h.tree∧h.tree<4294967296)(he:0≤h.epoch∧h.epoch<4294967296)(hs:h.size<18446744073709551616)(hc:h.clock<18446744073709551616)(hl:h.root.length=32):
 Zc 217 #[.agg (hd0v h).toArray] w fun e w'=>∃v,e=.returned v∧OwnB w' w.heap.size v (qmh h)∧Zb w w':=by
 obtain⟨tree,ht'⟩:∃k:Nat,h.tree=(k:Int):=⟨h.tree.toNat,by omega⟩;obtain⟨epoch,he'⟩:∃k:Nat,h.epoch=(k:Int):=⟨h.epoch.toNat,by omega⟩;have hres:qmh h=qmf++(be tree 1++(be epoch 4++(be h.size 8++(be h.clock 8++h.root)))):=by unfold qmh;rw[ht',he',tBe,tBe]
 have d0:(hd0v h)[0]? =some (.int .i64 (tree:Int)):=by rw[←ht'];rfl
 have d1:(hd0v h)[1]? =some (.int .i64 (epoch:Int)):=by rw[←he'];rfl
 have d2:(hd0v h)[2]? =some (.int .u64 (h.size:Int)):=rfl;have d3:(hd0v h)[3]? =some (.int .u64 (h.clock:Int)):=rfl;have d4:∀j u,(byv h.root)[j]? =some u→(hd0v h)[4+j]? =some u:=fun j u hu=>by
  unfold hd0v;rw[show 4+j=j+1+1+1+1 by omega,tBc,tBc,tBc,tBc];exact hu
 obtain⟨D,hD⟩:=xeq (hd0v h);obtain⟨size,hsz⟩:=xeq h.size;obtain⟨clock,hck⟩:=xeq h.clock;obtain⟨root,hrt⟩:=xeq h.root;rw[hD]at d0 d1 d2 d3 d4 ⊢;rw[hsz]at d2 hs hres;rw[hck]at d3 hc hres;rw[hrt]at d4 hl hres;rw[hres];rw[ht']at ht;rw[he']at he;clear hD hsz hck hrt hres ht' he';obtain⟨W0,hW0⟩:=eqx (w.alloc (.cells D.toArray 53));have z0:=zNa hW0;have b0:=zMa hW0;have q1:IntKind.u64.wrap (tree:Int)=(tree:Int):=tBa _ zo;have q2:IntKind.u64.wrap (epoch:Int)=(epoch:Int):=tBa _ zo;have lR:(byv root).length=32:=by rw[qat];exact hl
 obtain⟨A4,A1,A2,A0,D0,D1,D2,D3⟩:=zh8 hW0 z0 b0 z0.lt d0 d1 d2 d3;obtain⟨D4,LR,HL⟩:=zh3 d4 lR hl;clear hW0 z0 b0 d0 d1 d2 d3 d4 lR hl;go_enter Tryz.func217,Tryz.ntmps217
 go_wp2_with fail
 rw[←A4.o];refine(qd2 W0).mono ?_;rintro e w1 ⟨rfl,h1,b1⟩;obtain⟨hww1,Zw1,Bw1⟩:=zh3 h1 (A1.below b1 A1.lt) (A2.trans (b1.mono A2.size));clear h1 b1;have c1:=(Zw1.cell 0).trans (show D.toArray[0]? =some (.int .i64 (tree:Int)) by simpa using D0.o);go_wp2_with fail
 refine(qd1 _ _ (tree) 1 _ w1 hww1.o zo (by simp only[tA6,qaw,List.length_nil,qog,qoh,qoi];omega)).mono ?_;rintro e w2 ⟨rfl,hw2,bw2,-⟩;simp only[qog,qoh,qoi]at hw2;obtain⟨hww2,Zw2,Bw2⟩:=zh3 hw2 (Zw1.below bw2 (by first|exact A0.o|omega)) (Bw1.trans (bw2.mono (by first|exact Nat.le_of_lt A0.o|omega)));clear hw2 bw2;clear c1;have c1:=(Zw2.cell 1).trans (show D.toArray[1]? =some (.int .i64 (epoch:Int)) by simpa using D1.o);go_wp2_with fail
 refine(qd1 _ _ (epoch) 4 _ w2 hww2.o zo (by simp only[tA6,qaw,List.length_nil,qog,qoh,qoi];omega)).mono ?_;rintro e w3 ⟨rfl,hw3,bw3,-⟩;simp only[qog,qoh,qoi]at hw3;obtain⟨hww3,Zw3,Bw3⟩:=zh3 hw3 (Zw2.below bw3 (by first|exact A0.o|omega)) (Bw2.trans (bw3.mono (by first|exact Nat.le_of_lt A0.o|omega)));clear hw3 bw3;clear c1;have c1:=(Zw3.cell 2).trans (show D.toArray[2]? =some (.int .u64 (size:Int)) by simpa using D2.o);go_wp2_with fail
 refine(qd1 _ _ (size) 8 _ w3 hww3.o zo (by simp only[tA6,qaw,List.length_nil,qog,qoh,qoi];omega)).mono ?_;rintro e w3b ⟨rfl,hw3b,bw3b,-⟩;simp only[qog,qoh,qoi]at hw3b;obtain⟨hww3b,Zw3b,Bw3b⟩:=zh3 hw3b (Zw3.below bw3b (by first|exact A0.o|omega)) (Bw3.trans (bw3b.mono (by first|exact Nat.le_of_lt A0.o|omega)));clear hw3b bw3b;clear c1;have c1:=(Zw3b.cell 3).trans (show D.toArray[3]? =some (.int .u64 (clock:Int)) by simpa using D3.o);go_wp2_with fail
 refine(qd1 _ _ (clock) 8 _ w3b hww3b.o zo (by simp only[tA6,qaw,List.length_nil,qog,qoh,qoi];omega)).mono ?_;rintro e w3c ⟨rfl,hw3c,bw3c,-⟩;simp only[qog,qoh,qoi]at hw3c;obtain⟨hww3c,Zw3c,Bw3c⟩:=zh3 hw3c (Zw3b.below bw3c (by first|exact A0.o|omega)) (Bw3b.trans (bw3c.mono (by first|exact Nat.le_of_lt A0.o|omega)));clear hw3c bw3c;clear c1;have A3:=zh1 (qap Zw3c.o 4 (byv root) D4.o);have hI:(Tryz.prog.info? 29).map (·.size)=some (byv root).length:=by rw[LR.o];exact Tryz.dig_info
 obtain⟨V,hV⟩:=xeq (byv root);rw[hV]at hI A3;obtain⟨HI,HV⟩:=zh2 hI hV;clear hI hV;go_wp2_with (refine zld A3.o zu29 HI.o ?_)
 rw[←HV.o];refine(qd7 _ _ _ root w3c hww3c.o (by simp only[tA6,qaw,List.length_nil];omega) HL.o).mono ?_;rintro e w4 ⟨rfl,h4,b4,-⟩;obtain⟨hww4,Zw4,Bw4⟩:=zh3 h4 (Zw3c.below b4 (by first|exact A0.o|omega)) (Bw3c.trans (b4.mono (by first|exact Nat.le_of_lt A0.o|omega)));clear h4 b4;have e4:(w4.alloc (.cells (byv qmf).toArray 5)).heap[w4.heap.size]? =some (.cells (byv qmf).toArray 5 (0,0)):=heap_alloc_new w4 _;go_wp2_with (refine wpList_plain rfl fun K9 hK9=>qk3 (.tmp 27) rfl w4.heap.size 4 4 rfl (byv qmf).toArray e4 ?_)
 intro w5 g5 l5;refine hK9 _ _ ?_;have b45:Zb w4 w5:=((tA5 _ _).alloc (tA4 _) (.cells (byv qmf).toArray 5)).grown g5 zm (by intro g hg;injection hg with hg;omega);obtain⟨hww5,Zw5,Bw5,R5⟩:=zh4 (hww4.kept_call b45) (Zw4.below b45 Zw4.lt) (Bw4.trans (b45.mono Bw4.size)) l5.reads;have LR:=HL.o;clear e4 g5 l5 b45;go_wp2_with fail
 refine(qd4 _ _ _ _ hww5.o (by simp only[tA6,qaw,List.length_nil];omega)).mono ?_;rintro e w6 ⟨v6,rfl,o6,b6⟩;replace o6:OwnB w6 w5.heap.size v6 (be tree 1++(be epoch 4++(be size 8++(be clock 8++root)))):=OwnB.cast (OwnB.of o6) (by simp only[List.append_assoc,List.nil_append]);obtain⟨A6,n6,c6,rfl,nc6,-,r6⟩:=o6.sl;have l6:=qb4 r6;obtain⟨Zw6,Bw6⟩:=zh2 (Zw5.below b6 Zw5.lt) (Bw5.trans (b6.mono Bw5.size));obtain⟨w7,hw7⟩:=eqx (w6.alloc (.cells #[.slice (some ⟨w4.heap.size,0,none⟩) 4 4,.slice A6 n6 c6] 23));have b67:=zMa hw7;have x0:w7.cell? ⟨w6.heap.size,0,none⟩=some (.slice (some ⟨w4.heap.size,0,none⟩) 4 4):=by rw[hw7];exact(qak w6 _ _ 0).trans rfl
 have x1:w7.cell? ⟨w6.heap.size,1,none⟩=some (.slice A6 n6 c6):=by rw[hw7];exact(qak w6 _ _ 1).trans rfl
 have J:=qje w6.heap.size 4 4 n6 c6 _ _ (qmf) (be tree 1++(be epoch 4++(be size 8++(be clock 8++root)))) w7 x0 x1 ((R5.call b6).call b67) (r6.call b67) (by simp only[tA6,qaw]at l6;omega);obtain⟨HJ,A5,Zw7,Bw7⟩:=zh4 J hw7 (Zw6.below b67 Zw6.lt) (Bw6.trans (b67.mono Bw6.size));clear J x0 x1 b67 hw7 b6 r6 l6 nc6 o6;go_wp2_with fail
 rw[←A5.o];refine HJ.o.mono ?_;rintro e w8 ⟨v8,rfl,o8,b8⟩;obtain⟨A8,n8,c8,rfl,nc8,-,r8⟩:=o8.sl;have l8:=qb4 r8;obtain⟨Zw8,Bw8⟩:=zh2 (Zw7.below b8 Zw7.lt) (Bw7.trans (b8.mono Bw7.size));go_wp2
 go_ret
 exact⟨_,rfl,o8.mono Bw7.size,Bw8.o⟩
theorem qol(a b c d:Value)(R M:List Value)(hR:R.length=32)(hM:M.length=32):Tryz.prog.built 55 [(0,.agg (a::b::c::d::R).toArray),(1,.agg M.toArray)]=some (a::b::c::d::(R++M)).toArray:=by
 obtain⟨a0,a1,a2,a3,a4,a5,a6,a7,a8,a9,a10,a11,a12,a13,a14,a15,a16,a17,a18,a19,a20,a21,a22,a23,a24,a25,a26,a27,a28,a29,a30,a31,rfl⟩:=qgp R hR;obtain⟨b0,b1,b2,b3,b4,b5,b6,b7,b8,b9,b10,b11,b12,b13,b14,b15,b16,b17,b18,b19,b20,b21,b22,b23,b24,b25,b26,b27,b28,b29,b30,b31,rfl⟩:=qgp M hM;kernel_rfl
theorem qom(a b c d:Value)(R:List Value)(hR:R.length=32)(ha:∃n,a=.int .i64 n)(hb:∃n,b=.int .i64 n)(hc:∃n,c=.int .u64 n)(hd:∃n,d=.int .u64 n):Tryz.prog.built 53 [(0,a),(1,b),(2,c),(3,d),(4,.agg R.toArray)]=some (a::b::c::d::R).toArray:=by
 obtain⟨a0,a1,a2,a3,a4,a5,a6,a7,a8,a9,a10,a11,a12,a13,a14,a15,a16,a17,a18,a19,a20,a21,a22,a23,a24,a25,a26,a27,a28,a29,a30,a31,rfl⟩:=qgp R hR;obtain⟨_,rfl⟩:=ha;obtain⟨_,rfl⟩:=hb;obtain⟨_,rfl⟩:=hc;obtain⟨_,rfl⟩:=hd;kernel_rfl
theorem qon(h:Hd)(hl:h.root.length=32):(hd0v h).length=36:=by unfold hd0v;simp only[tBi,qat,hl]
theorem qoo(h:Hd)(hb:∀x∈h.root,x<256):∀x∈qmh h,x<256:=by
 intro x hx;unfold qmh at hx;simp only[tBg]at hx;rcases hx with h1|h1|h1|h1|h1|h1
 · exact qof x h1
 · exact qaz _ _ x h1
 · exact qaz _ _ x h1
 · exact qaz _ _ x h1
 · exact qaz _ _ x h1
 exact hb x h1
theorem qop(h:Hd)(hl:h.root.length=32):(qmh h).length=57:=by
 unfold qmh;simp only[tA6,qaw,hl];rfl
theorem qoq(c:Cfg)(seedv:Value)(A:Option Addr)(n k:Nat)(w:World)(hr:Reads w w.heap.size 1 A n (byv c.seed))(hs:∀x∈c.seed,x<256)(hn:n≤64)(hT:Tabs w):
 Zc 179 #[.agg #[.int .i64 c.width,.int .i64 c.quantum,.int .u32 (c.store:Int),.slice A n k]] w fun e w'=>e=.returned (.agg (byv (qmg c.seed)).toArray)∧Zb w w':=by
 obtain⟨W0,hW0⟩:=eqx ((w.alloc (.cells #[.int .i64 c.width,.int .i64 c.quantum,.int .u32 (c.store:Int),.slice A n k] 25)).alloc (.cells zLD 29));have z0:Blk W0 (w.heap.size+1) 29 (byv (List.replicate 32 0)).toArray:=by
  have h:=Blk.new (w.alloc (.cells #[.int .i64 c.width,.int .i64 c.quantum,.int .u32 (c.store:Int),.slice A n k] 25)) 29 zLD;rw[qar]at h;rw[hW0];exact h
 have b0:=zMb hW0;obtain⟨w4,rfl⟩:=eqx W0;have e4:(w4.alloc (.cells (byv qmd).toArray 5)).heap[w4.heap.size]? =some (.cells (byv qmd).toArray 5 (0,0)):=heap_alloc_new w4 _;have s4:w4.heap.size=w.heap.size+1+1:=by rw[hW0];simp
 obtain⟨A0,E4,Zw4,Bw4,HR,HT,HS,S4⟩:=zh8 hW0 e4 z0 b0 hr hT hs s4;clear hW0 z0 b0 hr hT hs e4 s4;have e4:=E4.o;rw[S4.o,A0.o]at e4;go_enter Tryz.func179,Tryz.ntmps179
 go_wp2_with (refine wpList_plain rfl fun K9 hK9=>qk3 (.tmp 5) rfl (w.heap.size+1+1) 4 4 rfl (byv qmd).toArray e4 ?_)
 clear e4;rw[←A0.o];intro w5 g5 l5;refine hK9 _ _ ?_;have b45:Zb w4 w5:=((tA5 _ _).alloc (tA4 _) (.cells (byv qmd).toArray 5)).grown g5 zm (by intro g hg;injection hg with hg;have:=S4.o;omega);obtain⟨Zw5,Bw5⟩:=zh2 (Zw4.below b45 Zw4.lt) (Bw4.trans (b45.mono Bw4.size));have M:=qjf n k 4 4 A _ c.seed qmd w5 (HR.call Bw5.o) l5.reads HS.o qoe hn zdc (HT.below Bw5.o HT.size);have HM:=zh1 M;clear M g5 l5 b45;go_wp2_with fail
 refine zcb HM.o fun w9 b9=>?_
 obtain⟨Z9,B9⟩:=zh2 (Zw5.below b9 Zw5.lt) (Bw5.trans (b9.mono Bw5.size));clear b9;obtain⟨X9,hX9⟩:=xeq (byv (mac c.seed qmd));have lX9:X9.length=32:=by rw[←hX9,qat];exact qjz _ _
 have oX9:∀u∈X9,u.oneCell'=true:=by rw[←hX9];exact qau _
 try rw[hX9]
 obtain⟨A2,A3,A4,A1⟩:=zh4 hX9 lX9 oX9 (zI 29 lX9);clear hX9 lX9 oX9;go_wp2_with (refine zst Z9.o A1.o (by simp[A3.o,qat]) A4.o ?_)
 have z9:=Z9.setRow X9.toArray;have A5:=qap z9 0 X9 zjq;exact zrt A5 zu29 A1.o ⟨(by rw[←A2.o];try rfl),below_setRow B9.o (by first|omega|exact tA4 _) _⟩
theorem qor(key:List Nat)(h:Hd)(w:World)(lk:key.length=32)(bk:∀x∈key,x<256)(ht:0≤h.tree∧h.tree<4294967296)(he:0≤h.epoch∧h.epoch<4294967296)(hs:h.size<18446744073709551616)(hc:h.clock<18446744073709551616)(hl:h.root.length=32)(hb:∀x∈h.root,x<256)(hT:Tabs w):
 Zc 175 #[.agg (byv key).toArray,.agg (hd0v h).toArray] w fun e w'=>e=.returned (.agg (hdv (signed key h)).toArray)∧Zb w w':=by
 have lD:=qon h hl;have KB:=fun w=>qok h w ht he hs hc hl
 have hB:=qoo h hb;have lB:=qop h hl;have bS:=qol (.int .i64 h.tree) (.int .i64 h.epoch) (.int .u64 (h.size:Int)) (.int .u64 (h.clock:Int)) (byv h.root) (byv (mac key (qmh h))) (by rw[qat,hl]) (by rw[qat,qjz]);have oS:=qmb (signed key h);have lS:(hdv (signed key h)).length=68:=by unfold hdv signed;simp only[tBi,tA6,qat,hl,qjz]
 rw[show (Value.int .i64 h.tree::.int .i64 h.epoch::.int .u64 (h.size:Int)::.int .u64 (h.clock:Int)::(byv h.root++byv (mac key (qmh h))))=hdv (signed key h) from rfl,show (Value.int .i64 h.tree::.int .i64 h.epoch::.int .u64 (h.size:Int)::.int .u64 (h.clock:Int)::byv h.root)=hd0v h from rfl]at bS;obtain⟨X,hX⟩:=xeq (hdv (signed key h));obtain⟨D,hD⟩:=xeq (hd0v h);obtain⟨MM,hMM⟩:=xeq (mac key (qmh h));obtain⟨hdb,hhb⟩:=xeq (qmh h);obtain⟨V,hV⟩:=xeq (byv key);rw[hX]at bS oS lS ⊢;rw[hD]at bS lD ⊢;simp only[hD,hhb]at KB;rw[hMM]at bS;rw[hhb]at hMM hB lB;obtain⟨MV,hMV⟩:=xeq (byv MM);rw[hMV]at bS;obtain⟨W0,hW0⟩:=eqx (((w.alloc (.cells V.toArray 29)).alloc (.cells D.toArray 53)).alloc (.cells Tryz.zeroCells55 55));have k0:Blk W0 w.heap.size 29 (byv key).toArray:=by rw[hV,hW0];exact((Blk.new w _ _).alloc _).alloc _
 have d0:=zNe hW0;have z0:Blk W0 (w.heap.size+1+1) 55 (hdv Hd.zero).toArray:=by
  have h:=Blk.new ((w.alloc (.cells V.toArray 29)).alloc (.cells D.toArray 53)) 55 Tryz.zeroCells55;rw[qar,qar]at h;rw[hW0];rw[show (hdv Hd.zero).toArray=Tryz.zeroCells55 by kernel_rfl];exact h
 have b0:=zMc hW0;rw[hV];obtain⟨K0,D0,Z0,B0,A4,A5,HB,LB⟩:=zh8 k0 d0 z0 b0 hW0 KB hB lB;obtain⟨BS,OS,LS,HX,A6,A7,LK,BK⟩:=zh8 bS oS lS hX hMM hMV lk bk;obtain⟨HT,LD,L0⟩:=zh3 hT lD z0.lt;clear k0 d0 z0 b0 hW0 KB hB lB bS oS lS hX hMM hMV lk bk hT lD hD hhb hV;go_enter Tryz.func175,Tryz.ntmps175
 go_upto_region 1 with(fail)
 rw[←A4.o];obtain⟨S,HS⟩:=zS fun w'=>Zb W0 w'
 refine zrs S 6 (zq 0 3 [(3,true),(4,true),(5,false),(6,true)]) ((HS.o _).mpr (tA5 _ _).drew) ?_;obtain⟨A0,A2⟩:=zh2 (fun(w':World)(h:S w')=>qap (D0.below ((HS.o w').mp h) D0.lt) 0 D zjq) (zI 53 LD.o);refine qoc rfl rfl 53 (.tmp 3) rfl (w.heap.size+1) 0 rfl D _ A0.o Tryz.underlying53 rfl A2.o ?_;refine zP ?_;iterate 1 (refine zrb ?_)
 refine qoc rfl rfl 53 (.tmp 3) rfl (w.heap.size+1) 0 rfl D _ A0.o Tryz.underlying53 rfl A2.o ?_;refine zP ?_;obtain⟨Wd,hWd,bd⟩:=zdr W0;rw[←hWd];clear hWd;refine zw ?_;go_simp;refine(A5.o Wd).mono ?_;rintro e w1 ⟨v1,rfl,o1,b1⟩;obtain⟨A1,n1,c1,rfl,nc1,-,r1⟩:=o1.sl;have l1:=qb4 r1;rw[LB.o]at l1;have b1':=bd.trans (b1.mono bd.size);have k1:=K0.below b1' K0.lt;have rk:=qfb k1 (p:=0) zo;rw[LK.o,List.drop_zero]at rk;have M:=qjf 32 32 n1 c1 _ A1 key hdb w1 rk r1 BK.o HB.o zo zo ((HT.below B0.o HT.size).below b1' (tB1 HT.size B0.size));rw[A6.o,A7.o]at M;obtain⟨HM,B1⟩:=zh2 M b1';clear M rk k1 b1 b1' o1 r1 l1 nc1 bd;refine⟨(HS.o _).mpr B1.o,zput ?_⟩;refine zw ?_;go_simp;refine zcb HM.o fun w2 b2=>?_
 have B2:=zh1 (B1.trans (b2.mono B1.size));clear b2;refine⟨(HS.o _).mpr B2.o,zput ?_⟩;refine qbg rfl rfl ⟨.agg X.toArray,fun w1 hS=>qgq 55 _ rfl _ _ BS.o (by simp[Act.eval]),?_⟩;refine zP ?_;have Z2:=Z0.below B2.o Z0.lt;have IX:(Tryz.prog.info? 55).map (·.size)=some X.length:=by rw[LS.o];kernel_rfl
 refine zw ?_;refine wp_store_row 55 (.tmp 4) (.tmp 10) rfl (w.heap.size+1+1) X.toArray rfl rfl 55 _ Z2 (by simpa using IX) (by simp[LS.o,qnm Hd.zero_Ok]) (by simpa using OS.o) ?_;refine⟨fun h=>absurd h zdc,zput ?_⟩;refine qbf ?_;have z9:=Z2.setRow X.toArray;have A3:=qap z9 0 X zjq;obtain⟨A8,A9⟩:=zh2 A3 IX;clear IX z9 A3 Z2;go_wp2_with fail
 exact zrt A8.o zu55 A9.o ⟨rfl,below_setRow (B0.trans (B2.mono B0.size)) zo _⟩
section
open Go
section
variable {P : Program} {ops : Array Oper} {Q : Exit → Act → World → Prop} {md : Region.Mode} {S : World → Prop} {n : Nat}
def qos (md:Region.Mode)(ops:Array Oper)(n:Nat)(M:List (Nat × List Nat))(L1:Array Bool):Nat→Array Bool→Bool
 |0,listed=>listed==L1
 |m+1,listed=>!(Region.ready md ops listed).isEmpty&&(Region.ready md ops listed).all fun i=>decide (i<n)&&M.any (fun x=>x.1==i)&&qos md ops n M L1 m (listed.setIfInBounds i true)
def qot (md:Region.Mode)(ops:Array Oper)(M:List (Nat × List Nat)):Bool:=
 M.all fun x=>x.2.all fun d=>match ops[x.1]? with|none=>false|some o=>o.after.any fun e=>Region.binds md e&&e.on==d
def Each:List (Nat × List Nat)→(Nat→List Nat→Prop)→Prop
 |[],_=>True
 |(i,ds)::r,p=>p i ds∧Each r p
theorem Each.get{p:Nat→List Nat→Prop}:∀{M:List (Nat × List Nat)},Each M p→∀x∈M,p x.1 x.2
 |[],_,x,hx=>(nomatch hx)
 |(i,ds)::r,h,x,hx=>by
  rcases List.mem_cons.1 hx with rfl|hx
  · exact h.1
  exact h.2.get x hx
def qou (P:Program)(ops:Array Oper)(Q:Exit→Act→World→Prop)(S:World→Prop)(Inv:(Nat→Bool)→Act→World→Prop)(i:Nat)(ds:List Nat):Prop:=
 ∀(D:Nat→Bool) (a:Act) (w:World),S w→Inv D a w→D i=false→(∀d∈ds,D d=true)→wpOp P ops Q i (fun a' w'=>S w'∧Inv (fun j=>D j||j==i) a' w') a w
def qov (P:Program)(ops:Array Oper)(Q:Exit→Act→World→Prop)(S:World→Prop)(n:Nat)(M:List (Nat × List Nat))(L0 L1:Array Bool)(post:List (Nat × Bool))(a:Act)(w:World):Prop:=
 ∃Inv:(Nat→Bool)→Act→World→Prop,Inv (fun j=>L0.getD j false) a w∧Each M (qou P ops Q S Inv)∧∀a' w',S w'→Inv (fun j=>L1.getD j false) a' w'→qb9 P ops Q S n post a' w'
theorem qow{Inv:(Nat→Bool)→Act→World→Prop}{M:List (Nat × List Nat)}{L1:Array Bool}(hd:qot md ops M=true)(hM:Each M (qou P ops Q S Inv))
 (hK:∀a w,S w→HeadInv md ops n L1→Inv (fun j=>L1.getD j false) a w→wpAnyS P md ops Q S n fuel L1 a w):
 ∀(m:Nat) (listed:Array Bool) (a:Act) (w:World),HeadInv md ops n listed→S w→qos md ops n M L1 m listed=true→Inv (fun j=>listed.getD j false) a w→wpAnyS P md ops Q S n (m+fuel) listed a w:=by
 intro m;induction m with
 |zero=>
  intro listed a w inv hS ho h;simp only[qos,beq_iff_eq]at ho;subst ho;simpa using hK a w hS inv h
 |succ m ih=>
  intro listed a w inv hS ho h;rw[Nat.add_right_comm];simp only[qos,Bool.and_eq_true,Bool.not_eq_true',List.all_eq_true,decide_eq_true_eq,List.any_eq_true,beq_iff_eq]at ho;obtain⟨hne,hall⟩:=ho;refine⟨fun h0=>(by rw[h0]at hne;simp at hne),fun i hi=>?_⟩;obtain⟨⟨hin,x,hx,hxi⟩,ho⟩:=hall i hi;obtain⟨hun,o,hoi,haft⟩:=mem_ready.1 hi;subst hxi;have hlt:x.1<listed.size:=by
   rcases Nat.lt_or_ge x.1 listed.size with h'|h'
   · exact h'
   simp[Array.getElem?_eq_none h']at hun
  have h0:listed.getD x.1 false=false:=by
   simp only[Array.getD_eq_getD_getElem?,Array.getElem?_eq_getElem hlt,Option.getD_some]at hun ⊢;exact hun
  refine wpOp_mono (fun a' w' h'=>⟨fun _=>h'.1,ih _ _ _ (inv.set hi hin) h'.1 ho ?_⟩) (hM.get x hx _ a w hS h h0 ?_)
  ·
   have e:(fun j=>(listed.setIfInBounds x.1 true).getD j false)=fun j=>listed.getD j false||j==x.1:=by
    funext j
    by_cases hj:x.1=j
    · subst hj
      simp[Array.getD_eq_getD_getElem?,hlt]
    rw[getD_set_ne false hj];have:(j==x.1)=false:=by simpa using fun e=>hj e.symm
    rw[this,Bool.or_false]
   rw[e];exact h'.2
  intro d hdm;have:=List.all_eq_true.1 (List.all_eq_true.1 hd x hx) d hdm;rw[hoi]at this;simp only[Array.any_eq_true',Bool.and_eq_true,beq_iff_eq]at this;obtain⟨e,he,hb,rfl⟩:=this;exact haft e he hb
def qox (P:Program)(ops:Array Oper)(Q:Exit→Act→World→Prop)(S:World→Prop)(n:Nat)(ds:List Nat)(M:List (Nat × List Nat))(L0 L1:Array Bool)(post:List (Nat × Bool))(a:Act)(w:World):Prop:=
 ∃Inv:(Nat→Bool)→List Value→World→Prop,(∃vs,a=puts a ds vs∧Inv (fun j=>L0.getD j false) vs w)∧
  Each M (fun i deps=>∀(D:Nat→Bool) (vs:List Value) (w:World),S w→Inv D vs w→D i=false→(∀d∈deps,D d=true)→wpOp P ops Q i (fun a' w'=>S w'∧∃vs',a'=puts a ds vs'∧Inv (fun j=>D j||j==i) vs' w') (puts a ds vs) w)∧
  ∀vs w',S w'→Inv (fun j=>L1.getD j false) vs w'→qb9 P ops Q S n post (puts a ds vs) w'
theorem Each.imp {p q:Nat→List Nat→Prop}(h:∀i ds,p i ds→q i ds):∀{M:List (Nat × List Nat)},Each M p→Each M q
 |[],_=>trivial
 |(i,ds)::r,hp=>⟨h i ds hp.1,Each.imp h hp.2⟩
theorem qoy{M:List (Nat × List Nat)}{L0 L1:Array Bool}{post:List (Nat × Bool)}(h:qox P ops Q S n ds M L0 L1 post a w):qov P ops Q S n M L0 L1 post a w:=by
 obtain⟨Inv,⟨vs,e,h0⟩,h1,h2⟩:=h;refine⟨fun D a' w'=>∃vs,a'=puts a ds vs∧Inv D vs w',⟨vs,e,h0⟩,h1.imp ?_,?_⟩
 · rintro i deps hp D a' w' hS ⟨vs,rfl,hI⟩ hD hd
   exact hp D vs w' hS hI hD hd
 rintro a' w' hS ⟨vs,rfl,hI⟩;exact h2 vs w' hS hI
theorem qoz {K K':Act→World→Prop}(hK:∀a w,K a w→K' a w):∀(r:List (Nat × Bool)) (a:Act) (w:World),qjh P ops Q S K r a w→qjh P ops Q S K' r a w
 |[],a,w,h=>hK a w h
 |(i,false)::r,a,w,h=>by
  obtain⟨o,v,h1,h2,h3⟩:=h;exact⟨o,v,h1,h2,qoz hK r _ _ h3⟩
 |(i,true)::r,a,w,h=>wpOp_mono (fun a' w' h'=>⟨h'.1,qoz hK r _ _ h'.2⟩) h
theorem qp0(S:World→Prop)(n:Nat)(ds:List Nat)(pre:List (Nat × Bool))(m:Nat)(M:List (Nat × List Nat))(post:List (Nat × Bool))(L0 L1:Array Bool)
 (hm:P.follows .mixedOrders=true)(hlen:(pre.length+(m+post.length)==ops.size)=true)(hsel:Region.noSelect ops=true)(ht:qbd .any ops n=true)
 (ho:qjg .any ops n pre (Array.replicate ops.size false)=some L0)(h1:qos .any ops n M L1 m L0=true)(hd:qot .any ops M=true)
 (hp:qb7 .any ops n post L1=true)(hQ:∀c a d v w,Q (.panic c) (a.put d v) w→Q (.panic c) a w)(hS:S w.drew)
 (h:qjh P ops Q S (qox P ops Q S n ds M L0 L1 post) pre a w.drew):(Code.region id ops true).wp P Q a w:=by
 replace h:=qoz (K':=qov P ops Q S n M L0 L1 post) (fun a w h=>qoy h) _ _ _ h;have ht':Tails .any ops n:=by
  unfold qbd at ht;simp only[Bool.or_eq_true,beq_iff_eq,Bool.and_eq_true,decide_eq_true_eq]at ht;exact ht.imp (fun h=>h) fun ⟨⟨a,b⟩,c⟩=>⟨a,b,c⟩
 have hl:pre.length+(m+post.length)=ops.size:=by simpa using hlen
 refine wp_region_any hm (qb5 (n:=n) (S:=S) _ _ _ _ ?_);rw[←hl];rw[hl];have key:=qji (P:=P) (Q:=Q) (S:=S) (K:=qov P ops Q S n M L0 L1 post) (L':=L0) (fuel:=m+post.length) hsel hQ ht' (fun a w hS inv hk=>by
  obtain⟨Inv,k0,k1,k3⟩:=hk;refine qow hd k1 ?_ m L0 a w inv hS h1 k0;intro a' w' hS' inv' hI;exact qba qbb hsel hQ ht' post L1 _ _ inv' hS' hp (k3 a' w' hS' hI))
  pre (Array.replicate ops.size false) a w.drew qbc hS ho h
 rw[hl]at key;exact key
theorem qp1(h1:(execOp a.eval o).run P w=.ok (.value v) w)(h:K (a.put o.dst v) w):o.wp P a w K Q:=by
 unfold Oper.wp;rw[h1];exact h
theorem qp2{r:List (Nat × Bool)}(hi:nth l i=some op)(hw:Region.wanted op (yielded l.toArray a.tmps)=true)
 (ty:TypeId)(x:Operand)(ho:op.op=.load ty x)(b o:Nat)(hx:a.eval x=.pointer (some ⟨b,o,none⟩))(cs:List Value)(d:TypeDesc)(hS:∀w,S w→w.rangeAt b o cs)
 (hu:P.underlying ty=some d)(hd:d.isRow=true)(hsz:(P.info? ty).map (·.size)=some cs.length)
 (h:qjh P l.toArray Q S K r (a.put op.dst (.agg cs.toArray)) w):qjh P l.toArray Q S K ((i,false)::r) a w:=
 ⟨op,_,(qb8 l i).symm.trans hi,yieldsIf_load_mid hw ty x ho b o hx cs d hS hu hd hsz,h⟩
theorem qp3(h:∀K',(∀a w,K a w→K' a w)→wpOp P ops Q i K' a w):wpOp P ops Q i K a w:=h K fun _ _ h=>h
end
end
theorem qp4(b:Int)(cells:Array Value)(hc:cells.size=1):Instr.fill (fun i=>some (i*1,1)) cells [(0,.int .u8 b)]=some #[.int .u8 b]:=by
 obtain⟨l⟩:=cells;cases l with
 |nil=>simp at hc
 |cons x l=>
  cases l with
  |nil=>simp[Instr.fill,Value.cells]
  |cons y l=>simp at hc
theorem qp5(x:Operand)(ho:o.op=.buildSlice 23 1 #[(0,x)])
 (b:Int)(hx:a.eval x=.int .u8 b)
 (h:K (a.put o.dst (.slice (some ⟨w.heap.size,0,none⟩) 1 1)) (w.alloc (.cells #[.int .u8 b] 5))):o.wp Tryz.prog a w K Q:=by
 obtain⟨i0,hi0,hz0,hz1,hz2⟩:=info_parts Tryz.u8_info;refine wp_buildSlice 23 5 1 #[(0,x)] ho #[.int .u8 b] i0 _ Tryz.underlying23 hi0 hz0 (by rw[hz1];omega) (by rw[hz1];omega) ?_ h;rw[hz1];simp only[List.map_toArray,List.map_cons,List.map_nil,hx];exact qp4 b _ zm
theorem qp6(h:Blk w g 5 #[.int .u8 (b:Int)]):Reads w w.heap.size 1 (some ⟨g,0,none⟩) 1 (byv [b]):=by
 refine⟨rfl,fun _=>⟨_,rfl,h.lt,fun j u hu=>?_⟩⟩;rw[Addr.add_mid,h.cell (0+j)];simpa [byv] using hu
theorem qp7(k:Int)(w:World):
 Zc 246 #[.int .i64 k] w fun e w'=>e=.returned (.int .i64 (cutW k:Nat))∧w=w':=by
 by_cases h:k<1∨32<k
 ·
  have H:Hid (((cutW k:Nat):Int)=32):=by unfold Hid cutW;rw[if_pos h];rfl
  by_cases h1:k<1
  · clear h
    go_enter Tryz.func246,Tryz.ntmps246
    go_wp2
    go_ret
    exact⟨by rw[H.o];rfl,rfl⟩
  have h2:32<k:=zo;clear h;go_enter Tryz.func246,Tryz.ntmps246
  go_wp2
  go_ret
  exact⟨by rw[H.o];rfl,rfl⟩
 have H:Hid (((cutW k:Nat):Int)=k):=by unfold Hid cutW;rw[if_neg h];omega
 have h1:¬k<1:=zo;have h2:¬32<k:=zo;clear h;go_enter Tryz.func246,Tryz.ntmps246
 go_wp2
 go_ret
 exact⟨by rw[H.o];rfl,rfl⟩
theorem qp8(d:List Nat)(k:Nat)(hd:d.length=32)(hk:k≤32):splice (byv (List.replicate 32 0)) 0 (byv (d.take k))=byv (cutD d k):=by
 rw[qey,tBd,hd,Nat.min_eq_left hk];rfl
theorem qp9(d:List Nat)(k:Nat)(w:World)(hd:d.length=32)(hk:k≤32):
 Zc 244 #[.agg (byv d).toArray,.int .i64 (k:Int)] w fun e w'=>e=.returned (.agg (byv (cutD d k)).toArray)∧Zb w w':=by
 have lD:(byv d).length=32:=by rw[qat];exact hd
 have hcut:=qp8 d k hd hk;have lX:(byv (cutD d k)).length=32:=by rw[qat];exact qg3 hd hk
 obtain⟨W0,hW0⟩:=eqx (((w.alloc (.cells (byv d).toArray 29)).alloc (.cells zLD 29)).alloc (.cells zLD 29));have k0:=zNd hW0;have z0:Blk W0 (w.heap.size+1) 29 (byv (List.replicate 32 0)).toArray:=by
  have h:=(Blk.new (w.alloc (.cells (byv d).toArray 29)) 29 zLD).alloc (.cells zLD 29);rw[qar]at h;rw[hW0];exact h
 have y0:Blk W0 (w.heap.size+1+1) 29 (byv (List.replicate 32 0)).toArray:=by
  have h:=Blk.new ((w.alloc (.cells (byv d).toArray 29)).alloc (.cells zLD 29)) 29 zLD;rw[qar,qar]at h;rw[hW0];exact h
 have b0:=zMc hW0;obtain⟨V,hV⟩:=xeq (byv d);rw[hV]at lD k0 hW0 ⊢;have q1:¬(k:Int)<0:=zo;have q2:¬(32:Int)<k:=zo;have q3:(0:Int)≤k:=zo;have q4:(k:Int)≤32:=zo;obtain⟨A0,K0,Z0,Y0,B0,HC,HV,LX⟩:=zh8 hW0 k0 z0 y0 b0 hcut hV lX;clear hW0 k0 z0 y0 b0 hcut hV lX;go_enter Tryz.func244,Tryz.ntmps244
 go_upto_region 2 with(fail)
 rw[←A0.o];obtain⟨S,HS⟩:∃S:World→Prop,Hid (∀w',S w'):=⟨fun _=>True,fun _=>trivial⟩;refine zrs S 5 (zq 0 5 [(5,true)]) (HS.o _) ?_;repeat(refine qbg rfl rfl ⟨?_,fun w1 hS=>?_,?_⟩;rotate_left;(focus(go_simp;(try rfl)));simp only[Act.put,tA0,tA1,tA2])
 refine zw ?_;have hcell:∀j u,(byv (d.take k))[j]? =some u→W0.drew.cell? ((⟨w.heap.size,0,none⟩:Addr).add j)=some u:=fun j u hu=>by
  have hd':(byv d)[j]? =some u:=by
   unfold byv at hu ⊢;rw[List.map_take,List.getElem?_take]at hu;split at hu
   · exact hu
   cases hu
  rw[HV.o]at hd';rw[Addr.add_mid,Nat.zero_add];exact(K0.drew.cell j).trans (by rw[tA3];exact hd')
 refine qf0 (.tmp 6) (.tmp 10) 23 23 rfl 5 zk zk _ _ _ _ _ _ rfl rfl (w.heap.size+1+1) 0 (byv (List.replicate 32 0)) 29 Y0.drew (byv (d.take k)) (by rw[qat,tBd,hd]) (fun h0=>⟨rfl,_,rfl,hcell⟩) (by rw[qat,qat,tBd,List.length_replicate];omega) (qau _) ?_;intro w1 hg1 hgr;have y1:Blk w1 (w.heap.size+1+1) 29 (byv (cutD d k)).toArray:=by rw[←HC.o];exact hg1
 have z1:Blk w1 (w.heap.size+1) 29 (byv (List.replicate 32 0)).toArray:=Z0.drew.grown hgr (by intro e;injection e with e;omega);have b1:Zb w w1:=(B0.drew).grown hgr (by have:=B0.size;exact this) (by intro g hg;injection hg with hg;omega);clear hcell hg1 hgr q1 q2 q3 q4 lD;refine⟨fun _=>(HS.o _),zput ?_⟩;refine qbf ?_;obtain⟨X,hX⟩:=xeq (byv (cutD d k));rw[hX]at y1 LX;obtain⟨A1,HI,Z1,B1,HX⟩:=zh5 (qap y1 0 X zjq) (zI 29 LX.o) z1 b1 hX;clear y1 z1 b1 hX;have HO:=zh1 (show ∀u∈X,u.oneCell'=true by rw[←HX.o];exact qau _);go_wp2_with (first
  |(refine zld A1.o zu29 HI.o ?_)
  |(refine zst Z1.o HI.o (by simp[LX.o,qat]) HO.o ?_))
 have z9:=Z1.setRow X.toArray;have A2:=qap z9 0 X zjq;exact zrt A2 zu29 HI.o ⟨by rw[←HX.o],below_setRow B1.o zo _⟩
theorem qpa(W:Int)(bs:List Nat)(A:Option Addr)(n c:Nat)(w:World)(hb:∀x∈bs,x<256)(hr:Reads w w.heap.size 1 A n (byv bs))(hnc:n≤c)(hn:n≤1152921504606846975)(ht:Tabs w):
 Zc 211 #[.int .i64 W,.slice A n c] w fun e w'=>e=.returned (.agg (byv (sumH (cutW W) bs)).toArray)∧Zb w w':=by
 have lc:=qfo W;obtain⟨W0,hW0⟩:=eqx (w.alloc (.cells zLD 29));have z0:Blk W0 w.heap.size 29 (byv (List.replicate 32 0)).toArray:=by rw[hW0];exact Blk.new w _ _
 have b0:=zMa hW0;have S0:=qfn n c A bs W0 hb (hr.call b0) hnc hn (ht.below b0 ht.size);obtain⟨A1,Z0,B0,A2⟩:=zh4 hW0 z0 b0 S0;clear hW0 z0 b0 S0 hb hr ht hnc hn;go_enter Tryz.func211,Tryz.ntmps211
 go_wp2_with fail
 rw[←A1.o];refine zcb A2.o fun w1 b1=>?_
 obtain⟨Z1,B1⟩:=zh2 (Z0.below b1 Z0.lt) (B0.trans (b1.mono B0.size));clear b1;go_wp2_with fail
 refine(qp7 _ _).mono ?_;rintro e w2 ⟨rfl,rfl⟩;go_wp2_with fail
 refine zcb (qp9 (sha bs) (cutW W) w1 (qja bs) lc.2) fun w2 b2=>?_
 obtain⟨Z2,B2⟩:=zh2 (Z1.below b2 Z1.lt) (B1.trans (b2.mono B1.size));clear b2;obtain⟨X9,hX9⟩:=xeq (byv (cutD (sha bs) (cutW W)));have lX9:X9.length=32:=by rw[←hX9,qat];exact qg3 (qja bs) lc.2
 have oX9:∀u∈X9,u.oneCell'=true:=by rw[←hX9];exact qau _
 try rw[hX9]
 obtain⟨A3,A4,A5,A0⟩:=zh4 hX9 lX9 oX9 (zI 29 lX9);clear hX9 lX9 oX9;go_wp2_with (refine zst Z2.o A0.o (by simp[A4.o,qat]) A5.o ?_)
 have z9:=Z2.setRow X9.toArray;have A6:=qap z9 0 X9 zjq;exact zrt A6 zu29 A0.o ⟨(by rw[←A3.o];try rfl),below_setRow B2.o (by first|omega|exact tA4 _) _⟩
theorem qpb(w:World)(b:Nat):Reads (w.alloc (.cells #[.int .u8 (b:Int)] 5)) (w.alloc (.cells #[.int .u8 (b:Int)] 5)).heap.size 1 (some ⟨w.heap.size,0,none⟩) 1 (byv [b]):=by
 have:=Reads.new1 w 5 (.int .u8 (b:Int));simpa [byv] using this
theorem qpc(W:Int)(bs:List Nat)(A:Option Addr)(n c:Nat)(w:World)(hb:∀x∈bs,x<256)(hr:Reads w w.heap.size 1 A n (byv bs))(hnc:n≤c)(hn:n≤4294967296)(ht:Tabs w):
 Zc 213 #[.int .i64 W,.slice A n c] w fun e w'=>e=.returned (.agg (byv (qfp (cutW W) bs)).toArray)∧Zb w w':=by
 have hln:=qb4 hr;obtain⟨W0,hW0⟩:=eqx (w.alloc (.cells zLD 29));obtain⟨W1,hW1⟩:=eqx (W0.alloc (.cells #[.int .u8 0] 5));obtain⟨W2,hW2⟩:=eqx (W1.alloc (.cells #[.slice (some ⟨W0.heap.size,0,none⟩) 1 1,.slice A n c] 23));have s0:W0.heap.size=w.heap.size+1:=by rw[hW0];simp
 have s1:W1.heap.size=w.heap.size+1+1:=by rw[hW1,qar,s0]
 have b0:=zMa hW0;have b01:=zMa hW1;have b12:=zMa hW2;have b2:Zb w W2:=(b0.trans (b01.mono b0.size)).trans (b12.mono zo);have z2:Blk W2 w.heap.size 29 (byv (List.replicate 32 0)).toArray:=by
  have z0:Blk W0 w.heap.size 29 (byv (List.replicate 32 0)).toArray:=by rw[hW0];exact Blk.new w _ _
  exact(z0.below b01 z0.lt).below b12 zo
 have r1:Reads W1 W1.heap.size 1 (some ⟨W0.heap.size,0,none⟩) 1 (byv [0]):=by rw[hW1];exact qpb W0 0
 have x0:W2.cell? ⟨W1.heap.size,0,none⟩=some (.slice (some ⟨W0.heap.size,0,none⟩) 1 1):=by rw[hW2];exact(qak W1 _ _ 0).trans rfl
 have x1:W2.cell? ⟨W1.heap.size,1,none⟩=some (.slice A n c):=by rw[hW2];exact(qak W1 _ _ 1).trans rfl
 have J:=qje W1.heap.size 1 1 n c _ _ [0] bs W2 x0 x1 (r1.call b12) (hr.call b2) zo;rw[s0]at hW2;rw[s1]at J;obtain⟨Z2,B2,HJ,A1,A2,A4,T2,Hb⟩:=zh8 z2 b2 J hW0 hW1 hW2 (ht.below b2 ht.size) hb;have HL:=zh1 hln;clear hW0 hW1 hW2 s0 s1 b0 b01 b12 b2 z2 r1 x0 x1 J hb hr ht hln;go_enter Tryz.func213,Tryz.ntmps213
 go_wp2_with fail
 rw[←A1.o,←A2.o,←A4.o];refine HJ.o.mono ?_;rintro e w3 ⟨v3,rfl,o3,b3⟩;obtain⟨A3,n3,c3,rfl,nc3,-,r3⟩:=o3.sl;have l3:=qb4 r3;have l3':n3≤1152921504606846975:=by rw[tA6,List.length_singleton]at l3;have:=HL.o;omega
 have M:=qpa W (0::bs) A3 n3 c3 w3 (by intro x hx;rcases List.mem_cons.1 hx with rfl|h;decide;exact Hb.o x h) r3 nc3 l3' (T2.below b3 T2.size);obtain⟨HM,Z3,B3⟩:=zh3 M (Z2.below b3 Z2.lt) (B2.trans (b3.mono B2.size));clear M o3 b3 r3 l3 l3' nc3;go_wp2_with fail
 refine zcb HM.o fun w4 b4=>?_
 obtain⟨Z4,B4⟩:=zh2 (Z3.below b4 Z3.lt) (B3.trans (b4.mono B3.size));clear b4;obtain⟨X9,hX9⟩:=xeq (byv (sumH (cutW W) (0::bs)));have lX9:X9.length=32:=by rw[←hX9,qat];exact qg3 (qja _) (qfo W).2
 have oX9:∀u∈X9,u.oneCell'=true:=by rw[←hX9];exact qau _
 try rw[hX9]
 obtain⟨A5,A6,A7,A0⟩:=zh4 hX9 lX9 oX9 (zI 29 lX9);clear hX9 lX9 oX9;go_wp2_with (refine zst Z4.o A0.o (by simp[A6.o,qat]) A7.o ?_)
 have z9:=Z4.setRow X9.toArray;have A8:=qap z9 0 X9 zjq;exact zrt A8 zu29 A0.o ⟨(by rw[←A5.o];try rfl),below_setRow B4.o (by first|omega|exact tA4 _) _⟩
theorem qpo(R:Req)(cav leafv:Value)(ht:R.tag.length=32):(reqv R cav leafv).length=48:=by
 unfold reqv;rw[tA6,tBi,qdf _ _ _ ht];rfl
def OwnF (w:World)(base g:Nat)(v:Value)(l:List Fld):Prop:=w.ownsRow base 252 4 v l.length (qdm g l)
theorem OwnF.sl{l:List Fld}(h:w.ownsRow base 252 4 v l.length (qdm g l)):∃A n c,v=.slice A n c∧n=l.length∧n≤c∧c≤maxLen∧Reads w w.heap.size 4 A n (qdm g l):=by
 obtain⟨A,c,h1,h2,h3,h4⟩:=qaf h;exact⟨A,_,c,h1,rfl,h2,h3,h4⟩
theorem OwnF.kept{l:List Fld}(h:OwnF w base g v l)(hb:Zb w w'):OwnF w' base g v l:=
 tB3 h ⟨hb.os,hb.tape,hb.output,hb.size,fun k hk _=>hb.block k hk⟩ (row:=none) (by cases v.ownBlock<;>simp)
theorem qpp(op:Int)(T:Tok)(cav leafv:Value)(ht:T.2.2.length=32):
 ((zLQ:Array Value).toList).take 1++(tokv T.1 cav T.2.2++((zLQ:Array Value).toList).drop (1+(tokv T.1 cav T.2.2).length))=reqv (req0 T 0) cav (.slice none 0 0):=by
 rw[qdf _ _ _ ht];rfl
theorem qpq{L:List Value}(h:Blk w g 34 L.toArray)(hl:L.length=48):(loadVar 34 ⟨g,0,none⟩).run Tryz.prog w=.ok (.agg L.toArray) w:=
 run_loadVar_mid _ _ 0 _ L _ (qap h 0 L zjq) Tryz.underlying34 rfl (by rw[hl];exact Tryz.req_info)
def qpr:List Value:=reqv qig (.slice none 0 0) (.slice none 0 0)
theorem qps:(Tryz.prog.info? 34).map (·.size)=some qpr.toArray.size:=by kernel_rfl
theorem qpt:qpr.toArray.all (·.oneCell')=true:=by kernel_rfl
theorem qpu:Tryz.prog.built 34 []=some qpr.toArray:=by kernel_rfl
structure DSt (w u:World)(B g G:Nat)(bs:List Nat)(C:List (Int × Nat))(cv fv lv:Value)(fl:List Fld)(s:RSt)(R:Req):Prop where
 lo:w.heap.size<B
 hi:g<G
 fine:R.Fine
 cav:R.cavs=C
 rd:Rd u B g bs s
 own:OwnC u w.heap.size cv C
 leaf:OwnB u w.heap.size lv R.leaf
 fld:OwnF u w.heap.size G fv fl
 q:Blk u G 34 (reqv R cv lv).toArray
 z:Blk u w.heap.size 34 zLQ
 bl:Zb w u
section
variable {w u v : World} {B g G : Nat} {bs : List Nat} {C : List (Int × Nat)} {cv fv lv lv' : Value} {fl : List Fld} {s s' : RSt} {R R' : Req}
theorem DSt.below(h:DSt w u B g G bs C cv fv lv fl s R)(b:Zb u v):DSt w v B g G bs C cv fv lv fl s R:=
 ⟨h.lo,h.hi,h.fine,h.cav,h.rd.below b,h.own.kept b,h.leaf.kept b,h.fld.kept b,h.q.below b h.q.lt,h.z.below b h.z.lt,h.bl.trans (b.mono h.bl.size)⟩
theorem DSt.read(h:DSt w u B g G bs C cv fv lv fl s R)(r:Rd v B g bs s')(k:u.grownBy v (some g)):DSt w v B g G bs C cv fv lv fl s' R:=by
 have h1:=h.rd.le;have h2:=h.lo;have h3:=h.hi;have ne:∀{base:Nat} {e:TypeId} {sz m:Nat} {x:Value} {xs:List Value},u.ownsRow base e sz x m xs→e≠239→x.ownBlock≠some g:=fun h' he=>by
  obtain⟨A',n',c',p',hgb,-⟩:=h.rd;exact qa3 h' hgb he
 exact⟨h2,h3,h.fine,h.cav,r,tB3 h.own k (.inr (ne h.own zdc)),tB3 h.leaf k (.inr (ne h.leaf zdc)),tB3 h.fld k (.inr (ne h.fld zdc)),h.q.grown k (by simp;omega),h.z.grown k (by simp;omega),adv h.bl k zo h.rd.lt⟩
theorem DSt.turn(h:DSt w u B g G bs C cv fv lv fl s R)(k:u.grownBy v (some G)){C':List (Int × Nat)}(q:Blk v G 34 (reqv R' cv' lv').toArray)(hf:R'.Fine)(hc:R'.cavs=C')(ho:OwnC u w.heap.size cv' C')(hl:OwnB u w.heap.size lv' R'.leaf):DSt w v B g G bs C' cv' fv lv' fl s R':=by
 have h1:=h.rd.le;have h2:=h.lo;have h3:=h.hi;exact⟨h2,h3,hf,hc,h.rd.kept k h.q zdc zdc zo,tB3 ho k (.inr (qa3 ho h.q zdc)),tB3 hl k (.inr (qa3 hl h.q zdc)),tB3 h.fld k (.inr (qa3 h.fld h.q zdc)),q,h.z.grown k (by simp;omega),adv h.bl k zo h.q.lt⟩
theorem DSt.put(h:DSt w u B g G bs C cv fv lv fl s R)(i:Nat)(x:Value)(e:(reqv R cv lv).toArray.setIfInBounds i x=(reqv R' cv lv').toArray)(hf:R'.Fine)(hc:R'.cavs=C)(hl:OwnB u w.heap.size lv' R'.leaf):DSt w (u.setCell ⟨G,i,none⟩ x) B g G bs C cv fv lv' fl s R':=
 h.turn (qab (p:=⟨G,i,none⟩) (tB9 u (some G)) (.inl rfl) x) (e▸h.q.set_ i x) hf hc h.own hl
theorem DSt.num(h:DSt w u B g G bs C cv fv lv fl s R)(hb:∀x∈bs,x<256){f:Fld}{X:RSt × Req}(hx:fl[j]? =some f)(hF:IsFld f)(h0:f.2.1≠0)(hgo:qid bs (fl.drop j) s R=X):
 ∃nn s',nn<256^f.1∧qid bs (fl.drop (j+1)) s' (R.put f.2.2 nn)=X∧Zc 69 #[.pointer (some ⟨g,0,none⟩),.int .i64 f.1] u fun e v=>e=.returned (.int .u64 nn)∧u.grownBy v (some g)∧(∃y,v.cell? ⟨G,f.2.2,none⟩=some y)∧v.frozen? ⟨G,f.2.2,none⟩=false∧DSt w (v.setCell ⟨G,f.2.2,none⟩ (fldN f nn)) B g G bs C cv fv lv fl s' (R.put f.2.2 nn):=by
 have es:qb0 (f.1:Int)=f.1:=by
  rcases qin hF with⟨-,e⟩|⟨-,e⟩|⟨-,e⟩|rfl
  · rw[e];rfl
  · rw[e];rfl
  · rw[e];rfl
  exact absurd rfl h0
 obtain⟨-,p2,-,p4,-⟩:=qis R f.2.2 (rNum bs s f.1).2;refine⟨(rNum bs s f.1).2,(rNum bs s f.1).1,qgg bs s _ hb,qip bs fl j f s R _ hgo hx h0,(qgh B g bs s f.1 u h.rd hb).mono ?_⟩;rintro e v ⟨rfl,hr,k⟩;rw[es]at hr ⊢;have d:=h.read hr k;obtain⟨y,hy⟩:=qio R cv lv h.fine.tag f hF h0;exact⟨rfl,k,⟨y,(d.q.cell _).trans (by rw[tA3,hy])⟩,d.q.frozen _,d.put _ _ (qim R cv lv h.fine.tag f hF h0 _) (h.fine.put _ _) (by rw[p2];exact h.cav) (by rw[p4];exact d.leaf)⟩
theorem qpv{f:Fld}{a b c d:Value}(hcell:∀i x,(qdm G fl)[i]? =some x→u.cell? ⟨fb,fo+i,none⟩=some x)(hx:fl[j]? =some f)(e:fldv G f=[a,b,c,d]):
 u.cell? ⟨fb,fo+j*4,none⟩=some a∧u.cell? ⟨fb,fo+j*4+1,none⟩=some b∧u.cell? ⟨fb,fo+j*4+2,none⟩=some c∧u.cell? ⟨fb,fo+j*4+3,none⟩=some d:=by
 have q:=qi5 G fl j f hx;rw[e]at q;exact⟨hcell _ _ (q 0 zdc),(Nat.add_assoc fo _ 1).symm▸hcell _ _ (q 1 zdc),(Nat.add_assoc fo _ 2).symm▸hcell _ _ (q 2 zdc),(Nat.add_assoc fo _ 3).symm▸hcell _ _ (q 3 zdc)⟩
end
theorem qpw(bs:List Nat)(A:Option Addr)(n c:Nat)(w:World)(hr:Reads w w.heap.size 1 A n (byv bs))(hn:n≤140737488355328)(hb:∀x∈bs,x<256)(hE:w.cell? ⟨0,0,none⟩=some (.iface 327 (.agg #[.pointer (some ⟨3,81,none⟩)]))):
 Zc 77 #[.slice A n c] w fun e w'=>∃cav lv r,e=.returned (.tuple #[.agg (reqv (qih bs).2 cav lv).toArray,r])∧OwnC w' w.heap.size cav (qih bs).2.cavs∧OwnB w' w.heap.size lv (qih bs).2.leaf∧RErr w' w.heap.size r (qih bs).1∧Below w.heap.size w w':=by
 have HB:=zh1 hb;have r0:=Blk.new w 34 zLQ;obtain⟨HE,R0,HR⟩:=zh3 hE r0 (hr.laid (.cells zLQ 34));have A7:Below w.heap.size w (w.alloc (.cells zLQ 34)):=(tA5 _ _).alloc (tA4 _) _;obtain⟨W0,hW0⟩:=eqx (w.alloc (.cells zLQ 34));rw[←hW0]at R0 HR A7;obtain⟨AD,B0⟩:=zh2 hW0 A7;clear hE r0 hr hW0 A7;go_enter Tryz.func77,Tryz.ntmps77
 go_upto_region 1 with(fail)
 rw[←AD.o];go_wp2_with fail
 refine(qg8 bs A n c W0 HR.o hn).mono ?_;rintro e w1 ⟨g,rfl,h1,b1⟩;obtain⟨B,hB⟩:=xeq W0.heap.size;have hBw:w.heap.size<B:=by rw[←hB];exact R0.lt
 rw[hB]at h1;have D2:Hid (DSt w (w1.alloc (.cells zLQ 34)) B g w1.heap.size bs [] (.slice none 0 0) (.slice none 0 0) (.slice none 0 0) [] (0,none) qig):=
  ⟨hBw,h1.lt,⟨rfl,by decide,by decide,by decide,by decide,by decide,by decide⟩,rfl,h1.below ((tA5 _ _).alloc (tA4 _) _),OwnC.nil _ _,OwnB.nil _ _,World.ownsRow_nil ..,Blk.new w1 _ _,(R0.below b1 R0.lt).alloc _,qah (B0.trans (b1.mono zo)) _⟩
 obtain⟨w2,hw2⟩:=eqx (w1.alloc (.cells zLQ 34));rw[←hw2]at D2;have AE:=zh1 hw2;clear h1 b1 hw2 hB;go_upto_region 4 with(fail)
 rw[←AE.o];obtain⟨G5,hG5⟩:=xeq w1.heap.size;rw[hG5]at D2 ⊢;clear hG5;go_wp2_with fail
 refine(qhp B g bs (0,none) 77 w2 D2.rd HB.o zo).mono ?_;rintro e w3 ⟨v3,rfl,own3,h3,g3⟩;obtain⟨A3,n3,c3,rfl,nc3,mc3,rd3⟩:=own3.sl;have raw:=qho bs (0,none) 77 HB.o;have hraw:=qb4 rd3;have D3:=D2.read h3 g3;have hDE:=qh9 (qhn bs (0,none) 77).2 A3 n3 c3 w3 rd3 (by have:=qii bs (0,none) 77 HB.o;omega) raw ((D3.bl.cell (p:=⟨0,0,none⟩) (World.block_lt_of_cell? _ _ HE.o)).trans HE.o);have hrt:qie bs=if (qh4 (qhn bs (0,none) 77).2).1=none then(qhn bs (0,none) 77).1 else qg5 (qhn bs (0,none) 77).1 (qhn bs (0,none) 77).1.1 12:=rfl
 have hT:reqT bs=(qh4 (qhn bs (0,none) 77).2).2:=rfl;have hok:=qhy (qhn bs (0,none) 77).2 raw;obtain⟨⟨E,T⟩,hET⟩:∃x,qh4 (qhn bs (0,none) 77).2=x:=⟨_,rfl⟩;rw[hET]at hDE hrt hT hok;dsimp only at hDE hrt hT hok;obtain⟨s3,hs3⟩:=xeq ((qhn bs (0,none) 77).1);rw[hs3]at D3 hrt;obtain⟨A9,AF,HT,AA⟩:=zh4 hDE hrt hT hok;have FI:∀k,Hid (req0 T k).Fine:=fun k=>⟨hok.1.2.2.1,hok.1.2.2.2,hok.1.1,hok.1.2.1,hok.2,by simp[req0],by simp[req0]⟩
 have A8:=zh1 D3;clear hDE hrt hT hok h3 D3 hET hs3 raw hraw own3 rd3 g3 D2;go_wp2_with fail
 refine A9.o.mono ?_;rintro e w4 ⟨cav,er,rfl,own4,her,b4⟩;obtain⟨Ac,nc,cc,rfl,enc,ncc,mcc,rdc⟩:=OwnC.sl own4;have d4:=A8.below b4;have lV:=qdf T.1 (.slice Ac nc cc) T.2.2 AA.o.1.2.2.1;have oV:=qeg T.1 (.slice Ac nc cc) rfl T.2.2;have hset:=qpp 0 T (.slice Ac nc cc) (.slice none 0 0) AA.o.1.2.2.1;obtain⟨V,hV⟩:=xeq (tokv T.1 (.slice Ac nc cc) T.2.2);rw[hV]at lV oV hset ⊢;have q4':Blk w4 G5 34 ((zLQ:Array Value).toList).toArray:=d4.q;obtain⟨ZR,hZR⟩:=xeq ((zLQ:Array Value).toList);have lZ:ZR.length=48:=by rw[←hZR];rfl
 rw[hZR]at q4' hset;obtain⟨TH,IV,OV,D5,AB⟩:=zh5 (show w4.there G5 1 V.toArray.size by rw[tB6,lV];exact qek q4' 1 34 (by rw[lZ];decide)) (show (Tryz.prog.info? 31).map (·.size)=some V.toArray.size by rw[tB6,lV];exact Tryz.tok_info) (all_oneCell_toArray oV) (d4.turn (qei G5 V 1 w4) (hset▸Blk.setCells V 1 w4 ZR q4' (by rw[lZ,lV];decide)) (FI 0).o rfl (OwnC.mono own4 A8.bl.size) (OwnB.nil _ _)) her;clear d4 q4' own4 lV oV hset hV hZR lZ her rdc enc b4 A8 A9;go_upto_region 5 with(refine wpList_store_mid rfl 31 (.tmp 20) (.tmp 18) rfl G5 1 V.toArray rfl rfl TH.o IV.o OV.o ?_)
 obtain⟨w5,hw5⟩:=eqx (w4.setCells G5 1 V);rw[←hw5]at D5 ⊢;clear hw5 TH;have A5:Hid (qie bs=if E=none then s3 else qg5 s3 s3.1 12):=AF;go_cut [22] (fun s22 wx=>s22=.bool E.isSome∧wx=w5)
 case first=>
  cases E with
  |none=>
   have he:er=.nilIface:=AB.o;subst he;go_wp2
   go_meet
   case rel=>exact⟨rfl,rfl⟩
  |some x=>
   obtain⟨hh,he,-,-⟩:=AB.o;subst he;go_wp2
   go_meet
   case rel=>exact⟨rfl,rfl⟩
 case rest=>
  obtain⟨rfl,rfl⟩:=hcut;obtain⟨w5',rfl⟩:=eqx wc;go_upto_if 22 with(fail)
  go_cut [] (fun wx=>Hid (DSt w wx B g G5 bs T.2.1 (.slice Ac nc cc) (.slice none 0 0) (.slice none 0 0) [] (qie bs) (req0 T 0)))
  case first=>
   cases E with
   |none=>
    rw[if_pos rfl]at A5;go_wp2
    go_meet
    case rel=>exact A5.o▸D5.o
   |some x=>
    rw[if_neg zm]at A5;go_wp2_with fail
    refine(qga B g bs s3 12 w5' D5.rd zdc).mono ?_;rintro e w6 ⟨rfl,h6,g6⟩;have D6:=zh1 (D5.read h6 g6);clear h6 g6;go_wp2
    go_meet
    case rel=>exact A5.o▸D6.o
  case rest=>
   have D6:=hcut;clear D5 hcut;obtain⟨w6,rfl⟩:=eqx wc;go_wp2_with fail
   refine(qgh B g bs (qie bs) 1 w6 D6.rd HB.o).mono ?_;rintro e w7 ⟨rfl,h7,g7⟩;have hkl:=qgg bs (qie bs) 1 HB.o;have hgo:=qij bs;have e1:qb0 1=1:=rfl;rw[e1]at h7 ⊢;clear e1;obtain⟨⟨s7,k⟩,hk⟩:∃x,rNum bs (qie bs) 1=x:=⟨_,rfl⟩;rw[hk]at h7 hkl ⊢;dsimp only at h7 hkl ⊢;have hk256:k<256:=Nat.lt_of_lt_of_eq hkl zdc;have kw:IntKind.i64.wrap (k:Int)=k:=tBb _ zo;have A6:=zh1 (hgo s7 k hk);have d7:=D6.read h7 g7;have c70:=d7.q.cell 0;rw[show (reqv (req0 T 0) (.slice Ac nc cc) (.slice none 0 0)).toArray[0]? =some (.int .i64 0) from rfl]at c70;have f70:=d7.q.frozen 0;have D8:=zh1 (d7.put 0 (.int .i64 (k:Int)) (qik T _ _ k) (FI k).o rfl (OwnB.nil _ _));clear h7 g7 hkl hgo hk d7 D6;go_upto_region 8 with(fail)
   obtain⟨w8,hw8⟩:=eqx (w7.setCell ⟨G5,0,none⟩ (.int .i64 (k:Int)));rw[←hw8]at D8 ⊢;clear hw8 c70 f70;have fc:=qe1 G5 _ (k:Int) w8 D8.q rfl;obtain⟨bb,hbb⟩:=xeq ((fieldsOf (k:Int)).isSome);rw[hbb]at fc A6;obtain⟨AK,FC⟩:=zh2 hbb fc;clear fc hbb;go_wp2_with fail
   refine FC.o.mono ?_;rintro e w9 ⟨lv,rfl,ownF,b9⟩;have hfl4:((fieldsOf (k:Int)).getD []).length≤4∧∀f∈(fieldsOf (k:Int)).getD [],IsFld f:=by
    cases hf:fieldsOf (k:Int) with
    |none=>simp
    |some l2=>exact⟨(qi8 _ _ hf).2.2,fun f hm=>qi6 _ _ hf f hm⟩
   obtain⟨fl,hfl⟩:=xeq ((fieldsOf (k:Int)).getD []);rw[hfl]at hfl4 ownF A6;obtain⟨Al,nl,cl,rfl,enl,ncl,-,-⟩:=OwnF.sl ownF;have D9:Hid (DSt w w9 B g G5 bs T.2.1 (.slice Ac nc cc) (.slice Al nl cl) (.slice none 0 0) fl s7 (req0 T k)):={D8.below b9 with fld:=qde ownF D8.bl.size};have EN:=zh1 enl;clear ownF b9 enl D8 FC;go_upto_if 34 with(fail)
   obtain⟨s9,hs9⟩:∃s,(if bb then s7 else qg5 s7 s7.1 12)=s:=⟨_,rfl⟩;rw[hs9]at A6;obtain⟨HS9,AC⟩:=zh2 hs9 hfl4;clear hfl hs9 hfl4;go_cut [] (fun wx=>Hid (DSt w wx B g G5 bs T.2.1 (.slice Ac nc cc) (.slice Al nl cl) (.slice none 0 0) fl s9 (req0 T k)))
   case first=>
    cases bb with
    |true=>
     have h9:=HS9.o;rw[if_pos rfl]at h9;subst h9;go_wp2
     go_meet
     case rel=>exact D9.o
    |false=>
     have h9:=HS9.o;rw[if_neg zm]at h9;subst h9;go_wp2_with fail
     refine(qga B g bs s7 12 w9 D9.rd zdc).mono ?_;rintro e wa ⟨rfl,ha,ga⟩;have Da:=zh1 (D9.read ha ga);clear ha ga;go_wp2
     go_meet
     case rel=>exact Da.o
   case rest=>
    have Da:=hcut;clear D9 hcut;obtain⟨wa,rfl⟩:=eqx wc;go_upto_block 0 with fail
    go_cut [] (fun wx=>∃(s:RSt) (R:Req) (lv:Value),Hid ((s,R)=qif bs)∧Hid (DSt w wx B g G5 bs T.2.1 (.slice Ac nc cc) (.slice Al nl cl) lv fl s R))
    case first=>
     go_wp2_with fail
     have hnl:nl=fl.length:=EN.o;subst hnl;go_loopw [39] (fun i wr=>∃(j:Nat) (s:RSt) (R:Req) (lv:Value),j≤fl.length∧i=.int .i64 j∧Hid (qid bs (fl.drop j) s R=qif bs)∧Hid (DSt w wr B g G5 bs T.2.1 (.slice Ac nc cc) (.slice Al fl.length cl) lv fl s R)) (fun i _=>fl.length - (intOf i).toNat)
     case atStart=>
      refine⟨0,s9,req0 T (k:Int),.slice none 0 0,by omega,rfl,?_,Da.o⟩;show _=_;rw[A6.o,show reqT bs=T from HT.o];rfl
     case round=>
      clear Da;obtain⟨j,s,R,lv,hj,rfl,hgo,D⟩:=hrel;have fl4:fl.length≤4:=AC.o.1;by_cases hjl:j<fl.length
      ·
       have qk:(j:Int)<fl.length:=zo;obtain⟨f,hx⟩:∃f,fl[j]? =some f:=⟨_,tA7 hjl⟩;have HF:=AC.o.2 f (tB2 hx);obtain⟨fbk,fo,hAl,hab,hcell⟩:=(Reads.of_own D.fld).mid zo zo;subst hAl;obtain⟨Hx,HC,HN⟩:=zh3 hx (fun a b c d=>qpv (a:=a) (b:=b) (c:=c) (d:=d) hcell hx) (fun(u:World)(b:Below wr.heap.size wr u)(h0:f.2.1≠0)=>(D.below b).num HB.o hx HF h0 hgo.o);have HK:=qin HF;have hwg:=D.rd.lt;clear hx hcell;rcases HK with⟨f1,f2⟩|⟨f1,f2⟩|⟨f1,f2⟩|rfl
       ·
        obtain⟨m0,m1,m2,m3⟩:=HC.o _ _ _ _ (show fldv G5 f=[.int .i64 1,.pointer (some ⟨G5,f.2.2,none⟩),.pointer none,.pointer none] by unfold fldv;simp[f1,f2]);obtain⟨fb,fq,x⟩:=f;simp only at f1 f2 m0 m1 m2 m3 HN;subst f1 f2;go_upto_region 16 with(fail)
        obtain⟨wf,hwf⟩:=eqx (wr.alloc (.cells #[.int .i64 1,.pointer (some ⟨G5,x,none⟩),.pointer none,.pointer none] 252));have bwf:=zMa hwf;have ff:=zNa hwf;rw[←hwf];obtain⟨nn,s',nlt,hs,RN⟩:=HN.o wf.drew bwf.drew zdc;have A0:=zh1 hs;clear hwf bwf m0 m1 m2 m3 HC HN D hs;have k0:=ff.cell 0;have kq:=ff.cell 1;obtain⟨S,HS⟩:=zS fun w'=>w'.cell? ⟨wr.heap.size,0,none⟩=some (.int .i64 1)∧w'.cell? ⟨wr.heap.size,1,none⟩=some (.pointer (some ⟨G5,x,none⟩))
        refine zrs S 8 (zq 0 5 [(5,true),(6,false),(7,false),(8,true)]) ((HS.o _).mpr ⟨k0,kq⟩) ?_;repeat(refine zrt0 ?_)
        refine zw ?_;go_simp;refine RN.mono ?_;rintro e wb ⟨rfl,gb,⟨y,qx⟩,fx,D9⟩;have fb:=(show Blk wf.drew wr.heap.size 252 _ from ff).grown gb (by simp;omega);refine⟨(HS.o _).mpr ⟨fb.cell 0,fb.cell 1⟩,?_⟩;have l0:=fb.cell 0;have lq:=fb.cell 1;have A2:=zh1 D9;have nw:IntKind.i64.wrap (nn:Int)=nn:=tBb _ zo;clear D9;refine zP ?_;repeat(refine zrt0 ?_)
        refine zw ?_;go_simp;refine qbf ?_;clear ff fb gb qx fx l0 lq k0 kq;go_wp2
        go_roundw
        case rel=>exact⟨j+1,s',R.put x nn,lv,by omega,by go_num,A0.o,A2.o⟩
        case measure=>simp[intOf];omega
       ·
        obtain⟨m0,m1,m2,m3⟩:=HC.o _ _ _ _ (show fldv G5 f=[.int .i64 4,.pointer none,.pointer (some ⟨G5,f.2.2,none⟩),.pointer none] by unfold fldv;simp[f1,f2]);obtain⟨fb,fq,x⟩:=f;simp only at f1 f2 m0 m1 m2 m3 HN;subst f1 f2;go_upto_region 18 with(fail)
        obtain⟨wf,hwf⟩:=eqx (wr.alloc (.cells #[.int .i64 4,.pointer none,.pointer (some ⟨G5,x,none⟩),.pointer none] 252));have bwf:=zMa hwf;have ff:=zNa hwf;rw[←hwf];obtain⟨nn,s',nlt,hs,RN⟩:=HN.o wf.drew bwf.drew zdc;have A0:=zh1 hs;clear hwf bwf m0 m1 m2 m3 HC HN D hs;have k0:=ff.cell 0;have kq:=ff.cell 2;obtain⟨S,HS⟩:=zS fun w'=>w'.cell? ⟨wr.heap.size,0,none⟩=some (.int .i64 4)∧w'.cell? ⟨wr.heap.size,2,none⟩=some (.pointer (some ⟨G5,x,none⟩))
        refine zrs S 8 (zq 0 5 [(5,true),(6,false),(7,false),(8,true)]) ((HS.o _).mpr ⟨k0,kq⟩) ?_;repeat(refine zrt0 ?_)
        refine zw ?_;go_simp;refine RN.mono ?_;rintro e wb ⟨rfl,gb,⟨y,qx⟩,fx,D9⟩;have fb:=(show Blk wf.drew wr.heap.size 252 _ from ff).grown gb (by simp;omega);refine⟨(HS.o _).mpr ⟨fb.cell 0,fb.cell 2⟩,?_⟩;have l0:=fb.cell 0;have lq:=fb.cell 2;have A2:=zh1 D9;have nw:IntKind.u32.wrap (nn:Int)=nn:=by rw[IntKind.wrap_u32];omega
        clear D9;refine zP ?_;repeat(refine zrt0 ?_)
        refine zw ?_;go_simp;refine qbf ?_;clear ff fb gb qx fx l0 lq k0 kq;go_wp2
        go_roundw
        case rel=>exact⟨j+1,s',R.put x nn,lv,by omega,by go_num,A0.o,A2.o⟩
        case measure=>simp[intOf];omega
       ·
        obtain⟨m0,m1,m2,m3⟩:=HC.o _ _ _ _ (show fldv G5 f=[.int .i64 8,.pointer none,.pointer none,.pointer (some ⟨G5,f.2.2,none⟩)] by unfold fldv;simp[f1,f2]);obtain⟨fb,fq,x⟩:=f;simp only at f1 f2 m0 m1 m2 m3 HN;subst f1 f2;go_upto_region 20 with(fail)
        obtain⟨wf,hwf⟩:=eqx (wr.alloc (.cells #[.int .i64 8,.pointer none,.pointer none,.pointer (some ⟨G5,x,none⟩)] 252));have bwf:=zMa hwf;have ff:=zNa hwf;rw[←hwf];obtain⟨nn,s',nlt,hs,RN⟩:=HN.o wf.drew bwf.drew zdc;have A0:=zh1 hs;clear hwf bwf m0 m1 m2 m3 HC HN D hs;have k0:=ff.cell 0;have kq:=ff.cell 3;obtain⟨S,HS⟩:=zS fun w'=>w'.cell? ⟨wr.heap.size,0,none⟩=some (.int .i64 8)∧w'.cell? ⟨wr.heap.size,3,none⟩=some (.pointer (some ⟨G5,x,none⟩))
        refine zrs S 7 (zq 0 5 [(5,true),(6,false),(7,true)]) ((HS.o _).mpr ⟨k0,kq⟩) ?_;repeat(refine zrt0 ?_)
        refine zw ?_;go_simp;refine RN.mono ?_;rintro e wb ⟨rfl,gb,⟨y,qx⟩,fx,D9⟩;have fb:=(show Blk wf.drew wr.heap.size 252 _ from ff).grown gb (by simp;omega);refine⟨(HS.o _).mpr ⟨fb.cell 0,fb.cell 3⟩,?_⟩;have l0:=fb.cell 0;have lq:=fb.cell 3;have A2:=zh1 D9;have nw:(0:Nat)=0:=rfl;clear D9;refine zP ?_;repeat(refine zrt0 ?_)
        refine zw ?_;go_simp;refine qbf ?_;clear ff fb gb qx fx l0 lq k0 kq;go_wp2
        go_roundw
        case rel=>exact⟨j+1,s',R.put x nn,lv,by omega,by go_num,A0.o,A2.o⟩
        case measure=>simp[intOf];omega
       obtain⟨m0,m1,m2,m3⟩:=HC.o _ _ _ _ rfl;dsimp only at m0;have hstep:=qiq bs fl j _ s R _ hgo.o Hx.o rfl;have hlb:=qho bs s 256 HB.o;have hll:=qii bs s 256 HB.o;have RB:=fun w h=>qhp B g bs s 256 w h HB.o zo
       obtain⟨⟨s',lf⟩,hlf⟩:∃x,qhn bs s 256=x:=⟨_,rfl⟩;simp only[hlf]at RB hlb hll hstep;obtain⟨AG,A0,AH,AI⟩:=zh4 RB hstep hlb hll;clear RB hstep hlb hll hlf HC HN;go_upto_region 14 with(fail)
       obtain⟨wf,hwf⟩:=eqx (wr.alloc (.cells #[.int .i64 0,.pointer none,.pointer none,.pointer none] 252));have d:=D.below (show Below wr.heap.size wr wf by rw[hwf];exact(tA5 _ _).alloc (tA4 _) _);rw[←hwf];clear hwf D m0 m1 m2 m3;go_wp2_with fail
       refine(AG.o wf d.rd).mono ?_;rintro e wb ⟨vb,rfl,ownb,hbb,gb⟩;obtain⟨Av,nv,cv,rfl,-,-,-⟩:=OwnB.sl ownb;have d':=d.read hbb gb;have qx:=d'.q.cell 47;rw[tA3,show (reqv R (.slice Ac nc cc) lv)[47]? =some lv from(qdk R (.slice Ac nc cc) lv d.fine.tag 12).trans rfl]at qx;have fx:=d'.q.frozen 47;have D9:=zh1 (d'.put 47 (.slice Av nv cv) (qir R _ lv _ lf d.fine.tag) ⟨d.fine.tag,d.fine.tagb,d.fine.tid,d.fine.cavn,d.fine.cavl,AH.o,AI.o⟩ d.cav (OwnB.mono ownb d.bl.size));clear hbb d d' gb ownb;go_wp2
       go_roundw
       case rel=>exact⟨j+1,s',{R with leaf:=lf},.slice Av nv cv,by omega,by go_num,A0.o,D9.o⟩
       case measure=>simp[intOf];omega
      have qk:¬(j:Int)<fl.length:=zo;have hgo':=hgo.o;rw[List.drop_eq_nil_of_le zo]at hgo';have AJ:=zh1 hgo';clear hgo';go_wp2
      go_meet
      case rel=>exact⟨s,R,lv,AJ.o,D.o⟩
    case rest=>
     obtain⟨s,R,lv,hdone,D⟩:=hcut;clear Da;have hEc:=(D.bl.cell (p:=⟨0,0,none⟩) (World.block_lt_of_cell? _ _ HE.o)).trans HE.o;have EC:=zh1 (qhq B g bs s wc D.rd hEc);have hdef:qih bs=match rEnd bs s with
      |none=>(none,R)
      |some x=>(some x,qig):=by
      unfold qih;rw[←hdone.o];dsimp only;cases rEnd bs s<;>rfl
     have A4:=zh1 hdef;clear hEc hdef;go_wp2_with fail
     refine EC.o.mono ?_;rintro e wd ⟨er2,rfl,hed,bd⟩;have hsz:=D.bl.size;have DD:=zh1 (D.below bd);have hz:=D.z.lt;clear bd D;have lR:=qpo R (.slice Ac nc cc) lv DD.fine.tag;cases hend:rEnd bs s with
     |none=>
      rw[hend]at hed;have e0:er2=.nilIface:=hed;subst e0;have A1:Hid (qih bs=(none,R)):=by
       show _=_;rw[A4.o,hend]
      obtain⟨Av,nv,cv,rfl,-,-,-⟩:=OwnB.sl DD.leaf;have oR:∀u∈reqv R (.slice Ac nc cc) (.slice Av nv cv),u.oneCell'=true:=by
       intro u hu;unfold reqv Req.rest at hu;simp only[List.cons_append,List.mem_cons,tBg,List.not_mem_nil,or_false]at hu;rcases hu with rfl|hu|hu
       · rfl
       · exact qeg _ _ rfl _ u hu
       rcases hu with rfl|rfl|rfl|rfl|rfl|rfl|rfl|rfl|rfl|rfl|rfl|rfl|rfl<;>rfl
      obtain⟨M,hM⟩:=xeq (reqv R (.slice Ac nc cc) (.slice Av nv cv));have Qd:=DD.q;rw[hM]at Qd oR lR;obtain⟨RG,IM,IM',LM,OM,EM⟩:=zh6 (qap Qd 0 M zjq) (zI 34 lR) (show (Tryz.prog.info? 34).map (·.size)=some M.toArray.size by rw[tB6,lR];exact Tryz.req_info) lR oR hM;clear lR oR hM hend Qd;go_wp2_with (first
       |(refine zld RG.o zu34 IM.o ?_)
       |(refine wpList_store_row rfl 34 (.tmp 2) (.tmp 88) rfl w.heap.size M.toArray rfl rfl 34 _ DD.z IM'.o (by simp[LM.o]) (by simpa using OM.o) ?_))
      have z:=DD.z.setRow M.toArray;refine bodyPost_ret (qgu rfl rfl (qpq z LM.o)) rfl ⟨.slice Ac nc cc,.slice Av nv cv,.nilIface,?_,?_,?_,?_,?_⟩
      · rw[A1.o,EM.o]
        rfl
      · rw[A1.o]
        dsimp only;rw[DD.cav];exact tB3 DD.own (qam _ _ _) (.inr (qa3 DD.own DD.z zdc))
      · rw[A1.o]
        exact tB3 DD.leaf (qam _ _ _) (.inr (qa3 DD.leaf DD.z zdc))
      · rw[A1.o]
        rfl
      exact below_setRow DD.bl (tA4 _) _
     |some x=>
      rw[hend]at hed;obtain⟨hh,rfl,hhB,hkb⟩:=hed;have A1:Hid (qih bs=(some x,qig)):=by
       show _=_;rw[A4.o,hend]
      have HK:=zh1 hkb;clear hend hkb lR;go_wp2_with (first
       |(refine qbj rfl ⟨.agg qpr.toArray,qgq 34 _ rfl _ _ qpu (by simp[Act.eval]),?_⟩)
       |(refine wpList_store_row rfl 34 (.tmp 2) (.tmp 86) rfl w.heap.size qpr.toArray rfl rfl 34 _ DD.z qps rfl qpt ?_))
      have z:=DD.z.setRow qpr.toArray;have hne:hh≠w.heap.size:=by
       omega
      refine bodyPost_ret (qgu rfl rfl (qpq z rfl)) rfl ⟨.slice none 0 0,.slice none 0 0,.iface 237 (.pointer (some ⟨hh,0,none⟩)),?_,?_,?_,?_,?_⟩
      · rw[A1.o]
        rfl
      · rw[A1.o]
        exact OwnC.nil _ _
      · rw[A1.o]
        exact OwnB.nil _ _
      · rw[A1.o]
        exact⟨hh,rfl,tB1 hsz hhB,HK.setRow_far hne _⟩
      exact below_setRow DD.bl (tA4 _) _
theorem Tryz.digs_info:(Tryz.prog.info? 29).map (fun i=>(i.zero,i.size,i.bytes))=some (some (.agg zLD),32,32):=by kernel_rfl
def OwnD (w:World)(base:Nat)(v:Value)(l:List (List Nat)):Prop:=(∀d∈l,d.length=32)∧w.ownsRow base 29 32 v l.length (digv l)
theorem qpx(l:List (List Nat)):∀u∈digv l,u.oneCell'=true:=by
 intro u hu;unfold digv at hu;obtain⟨x,_,hx⟩:=List.mem_flatMap.1 hu;exact qau x u hx
theorem qpy(a b:List (List Nat)):digv (a++b)=digv a++digv b:=by simp[digv]
section
variable {w w' : World} {base : Nat} {v : Value} {l : List (List Nat)}
theorem OwnD.nil(w:World)(base:Nat):OwnD w base (.slice none 0 0) []:=⟨fun d hd=>(nomatch hd),World.ownsRow_nil ..⟩
theorem OwnD.sl(h:OwnD w base v l):∃A n c,v=.slice A n c∧n=l.length∧n≤c∧c≤maxLen∧Reads w w.heap.size 32 A n (digv l):=by
 obtain⟨A,c,h1,h2,h3,h4⟩:=qaf h.2;exact⟨A,_,c,h1,rfl,h2,h3,h4⟩
theorem OwnD.kept(h:OwnD w base v l)(hb:Zb w w'):OwnD w' base v l:=
 ⟨h.1,tB3 h.2 ⟨hb.os,hb.tape,hb.output,hb.size,fun k hk _=>hb.block k hk⟩ (row:=none) (by cases v.ownBlock<;>simp)⟩
theorem OwnD.alloc(h:OwnD w base v l)(o:Obj):OwnD (w.alloc o) base v l:=h.kept ((tA5 _ _).alloc (tA4 _) o)
theorem OwnD.grown{t:TypeId}{cs:Array Value}(h:OwnD w base v l)(hg:w.grownBy w' (some g))(hb:Blk w g t cs)(ht:29≠t):OwnD w' base v l:=
 ⟨h.1,tB3 h.2 hg (.inr (qa3 h.2 hb ht))⟩
end
theorem qpz(s x:Operand)
 (ho:o.op=.call {callee:=.builtin .append,args:=#[s,x],argTypes:=#[51,51]})
 (base:Nat)(v:Value)(l:List (List Nat))(hs:a.eval s=v)(hown:OwnD w base v l)(A:Option Addr)(m c:Nat)(news:List (List Nat))(hx:a.eval x=.slice A m c)(hm:news.length=m)(hnl:∀d∈news,d.length=32)(hr:Reads w w.heap.size 32 A m (digv news))
 (hlen:l.length+m≤4398046511104)(hbase:base≤w.heap.size)
 (h:∀v' w',OwnD w' base v' (l++news)→Below base w w'→w.grownBy w' v.ownBlock→K (a.put o.dst v') w'):o.wp Tryz.prog a w K Q:=by
 obtain⟨i0,hi0,hz0,hz1,hz2⟩:=info_parts Tryz.digs_info;refine qa6 (P:=Tryz.prog) w s x _ ho base 29 i0 _ 32 32 Tryz.underlying51 hi0 hz0 hz1 hz2 rfl zo v l.length (digv l) hs hown.2 w.heap.size A m c (digv news) hx hr (qpx _) (by simp only[maxLen];omega) zo hbase ?_;intro v' w' h1 h2 h3;refine h v' w' ?_ ?_ h2
 ·
  refine⟨fun d hd=>?_,?_⟩
  · rcases List.mem_append.1 hd with hd|hd
    · exact hown.1 d hd
    exact hnl d hd
  rw[qpy,tA6,hm];exact h1
 exact qae (tA5 _ _) hown.2 h2 (tA4 _) hbase
section
variable {w0 w w' : World} {G : Nat} {R : Rsp} {bv hv cav : Value}
end
theorem qq0(R:Rsp)(bv hv cav:Value)(h1:(hdv R.hd).length=68)(h2:R.tok.2.2.length=32):(rspv R bv hv cav).length=106:=by
 unfold rspv;simp only[tBi,tA6,h1,qdf _ _ _ h2]
theorem qq1(R:Rsp)(bv hv cav:Value)(h1:bv.oneCell'=true)(h2:hv.oneCell'=true)(h3:cav.oneCell'=true):∀u∈rspv R bv hv cav,u.oneCell'=true:=by
 intro u hu;unfold rspv at hu;simp only[List.mem_cons,tBg]at hu;rcases hu with rfl|rfl|rfl|rfl|hu|hu
 · rfl
 · rfl
 · exact h1
 · exact h2
 · exact qmb _ u hu
 exact qeg _ _ h3 _ u hu
section
open Go
theorem qr5{S:World→Prop}{r:List (Nat × Bool)}(hi:nth l i=some o)(hw:Region.wanted o (yielded l.toArray a.tmps)=false)
 (h:S w∧qb9 P l.toArray Q S n r (a.put o.dst undef) w):qb9 P l.toArray Q S n ((i,true)::r) a w:=by
 show wpOp P l.toArray Q i _ a w;unfold wpOp;simp only[(qb8 l i).symm.trans hi,hw,Bool.false_eq_true,if_false];exact⟨fun _=>h.1,h.2⟩
end
theorem qrs(V:List Value)(n:Nat)(hn:V.length=n)(hp:0<n)(cells:Array Value)(hc:cells.size=n):Instr.fill (fun i=>some (i*n,n)) cells [(0,.agg V.toArray)]=some V.toArray:=by
 obtain⟨r,h1,h2,h3⟩:=Great.fill_dense hp [.agg V.toArray] 0 cells (fun v hv=>by obtain rfl:=List.mem_singleton.1 hv;simp[Value.cells,hn]) (by simp[hc]);have e:r=V.toArray:=by
  refine Array.ext_getElem? fun k=>?_
  rw[h3 k];by_cases hk:k<n
  · rw[if_pos ⟨by omega,by simpa using hk⟩]
    have hd:k / n=0:=Nat.div_eq_of_lt hk;have hm:k % n=k:=Nat.mod_eq_of_lt hk;rw[hd,hm];simp[Value.cells]
  rw[if_neg (by simp;omega)];rw[Array.getElem?_eq_none zo];simp;omega
 rw[e]at h1;exact h1
theorem qrt(t e:TypeId)(x:Operand)(ho:o.op=.buildSlice t 1 #[(0,x)])
 (V:List Value)(hx:a.eval x=.agg V.toArray)(i:TypeInfo)(z:Value)(n:Nat)(hu:P.underlying t=some (.slice e))(hie:P.info? e=some i)(hz:i.zero=some z)(hs:i.size=n)(hzs:z.cells.size=n)(hV:V.length=n)(hp:0<n)(hsm:n≤1000)
 (h:K (a.put o.dst (.slice (some ⟨w.heap.size,0,none⟩) 1 1)) (w.alloc (.cells V.toArray e))):o.wp P a w K Q:=by
 refine wp_buildSlice t e 1 #[(0,x)] ho V.toArray i z hu hie hz (by rw[hs];omega) (by rw[hs];omega) ?_ h;rw[hs];simp only[List.map_toArray,List.map_cons,List.map_nil,hx];exact qrs V n hV hp _ zm
theorem qru(x:Operand)(ho:o.op=.buildSlice 51 1 #[(0,x)])
 (d:List Nat)(hd:d.length=32)(hx:a.eval x=.agg (byv d).toArray)
 (h:K (a.put o.dst (.slice (some ⟨w.heap.size,0,none⟩) 1 1)) (w.alloc (.cells (byv d).toArray 29))):o.wp Tryz.prog a w K Q:=by
 obtain⟨i0,hi0,hz0,hz1,hz2⟩:=info_parts Tryz.digs_info;exact qrt _ 29 x ho (byv d) hx i0 _ 32 Tryz.underlying51 hi0 hz0 hz1 rfl (by rw[qat,hd]) zdc zdc h
theorem qrv(d:List Nat):digv [d]=byv d:=by simp[digv]
theorem qrw(w:World)(d:List Nat)(hd:d.length=32):Reads (w.alloc (.cells (byv d).toArray 29)) (w.alloc (.cells (byv d).toArray 29)).heap.size 32 (some ⟨w.heap.size,0,none⟩) 1 (digv [d]):=by
 have:=Reads.new w 29 (byv d) 32 1 (by rw[qat,hd]);rw[qar,qrv];exact this
theorem qrx{s s':Nat}{ys:List Value}(h:w.ownsRow b e s v n xs)(h':w.ownsRow b' e' s' v' n' ys)(hne:e≠e'):v.ownBlock=none∨v.ownBlock≠v'.ownBlock:=by
 rcases h.2 with⟨rfl,_⟩|⟨g,cap,cur,rfl,_,hg,_⟩
 · exact .inl rfl
 rcases h'.2 with⟨rfl,_⟩|⟨g',cap',cur',rfl,_,hg',_⟩
 · exact .inr (by simp[Value.ownBlock])
 refine .inr fun q=>hne ?_
 simp only[Value.ownBlock,Option.some.injEq]at q;subst q;rw[hg]at hg';simp only[Option.some.injEq,Obj.cells.injEq]at hg';exact hg'.2.1
theorem qsw(t:Value)(w:World):
 Zc 126 #[.nilIface,t] w fun e w'=>e=.returned (.bool false)∧w'=w:=qgm t w
theorem qsx(e t:Addr)(old:Value)(w:World)(hg:w.cell? ⟨0,0,none⟩=some (.iface 327 (.agg #[.pointer (some ⟨3,81,none⟩)])))(ht0:w.cell? t=some old)(hf0:w.frozen? t=false):
 Zc 126 #[.iface 218 (.pointer (some e)),.iface 222 (.pointer (some t))] w fun ev w'=>ev=.returned (.bool true)∧w'=((((w.alloc (.cells #[.pointer (some t)] 222)).alloc (.cells #[.pointer (some ⟨3,222,none⟩),.pointer (some ⟨w.heap.size,0,none⟩),.int .u64 150] 284)).alloc (.cells #[.pointer (some ⟨3,222,none⟩),.pointer (some ⟨w.heap.size,0,none⟩),.int .u64 150] 284)).alloc (.cells #[.pointer (some e)] 218)).setCell t (.pointer (some e)):=qgn (tb:=224) {} e t old w hg ht0 hf0
theorem qwk(A:Option Addr)(n c:Nat)(w:World)(hc:n≤c)(hn:(n:Int)≤9223372036854775807):
 Zc 64 #[.slice A n c] w fun e w'=>e=.returned (.slice A n n)∧w=w':=by
 have hc':(n:Int)≤c:=zo;go_enter Tryz.func64,Tryz.ntmps64
 go_wp2
 go_ret
 exact⟨rfl,rfl⟩
def pval:List Nat→Nat
 |[]=>0
 |a::l=>a+65536*pval l
def Parts (l:List Nat):Prop:=∀x∈l,x<65536
theorem Parts.get{l:List Nat}(h:Parts l){x:Nat}(hx:l[i]? =some x):x<65536:=h x (tB2 hx)
theorem Parts.set{l:List Nat}(h:Parts l)(i x:Nat)(hx:x<65536):Parts (l.set i x):=by
 intro y hy;rcases List.mem_or_eq_of_mem_set hy with hy|rfl
 · exact h y hy
 exact hx
theorem qwy:∀(l:List Nat) (i x o:Nat),l[i]? =some o→pval (l.set i x)+o*65536^i=pval l+x*65536^i
 |[],i,x,o,h=>by simp at h
 |a::l,0,x,o,h=>by
  simp at h;subst h;simp[pval];omega
 |a::l,i+1,x,o,h=>by
  have ih:=qwy l i x o (by simpa using h);simp only[List.set_cons_succ,pval];rw[Nat.pow_succ];have e1:o*(65536^i*65536)=65536*(o*65536^i):=by rw[←Nat.mul_assoc,Nat.mul_comm]
  have e2:x*(65536^i*65536)=65536*(x*65536^i):=by rw[←Nat.mul_assoc,Nat.mul_comm]
  rw[e1,e2];omega
theorem qwz:∀(l:List Nat),Parts l→pval l<65536^l.length
 |[],_=>by simp[pval]
 |a::l,h=>by
  have ih:=qwz l (fun x hx=>h x (List.mem_cons_of_mem _ hx));have ha:=h a zm;simp only[pval,tBi];rw[Nat.pow_succ];have:65536*pval l+65536≤65536*65536^l.length:=by
   have:=Nat.mul_le_mul_left 65536 (Nat.succ_le_of_lt ih);omega
  rw[Nat.mul_comm (65536^l.length)];omega
theorem qx0(l:List Nat):∀(k x:Nat),l[k]? =some x→pval (l.take (k+1))=pval (l.take k)+x*65536^k:=by
 induction l with
 |nil=>intro k x h;simp at h
 |cons a l ih=>
  intro k x h;cases k with
  |zero=>
   simp at h;subst h;simp[pval]
  |succ k=>
   have:=ih k x (by simpa using h);simp only[List.take_succ_cons,pval];rw[this,Nat.pow_succ];have e1:x*(65536^k*65536)=65536*(x*65536^k):=by rw[←Nat.mul_assoc,Nat.mul_comm]
   rw[e1];omega
theorem qx1:∀(l:List Nat) (k:Nat),k≤l.length→pval l=pval (l.take k)+65536^k*pval (l.drop k)
 |l,0,_=>by simp[pval]
 |[],k+1,h=>by simp at h
 |a::l,k+1,h=>by
  have ih:=qx1 l k (by simpa using h);simp only[List.take_succ_cons,List.drop_succ_cons,pval];rw[ih,Nat.pow_succ,Nat.mul_add];have e:65536^k*65536*pval (l.drop k)=65536*(65536^k*pval (l.drop k)):=by
   rw[Nat.mul_comm (65536^k) 65536,Nat.mul_assoc]
  rw[e];omega
theorem qx2{a b:List Nat}(ha:Parts a)(hb:Parts b)(hl:a.length=b.length)(i x y:Nat)(hx:a[i]? =some x)(hy:b[i]? =some y)(hd:a.drop (i+1)=b.drop (i+1))(h:x<y):pval a<pval b:=by
 have hi:i+1≤a.length:=(tA8 hx).1;rw[qx1 a (i+1) hi,qx1 b (i+1) zo,hd,qx0 a i x hx,qx0 b i y hy];have h1:=qwz (a.take i) (fun z hz=>ha z (tB7 hz));rw[tBd,Nat.min_eq_left zo]at h1;have h2:(x+1)*65536^i≤y*65536^i:=Nat.mul_le_mul_right _ h;rw[Nat.add_mul]at h2;omega
def qx3 (x:Nat):List Nat:=[x % 65536,x / 65536 % 65536,x / 4294967296 % 65536,x / 281474976710656]
theorem qx4(x:Nat)(h:x<18446744073709551616):pval (qx3 x)=x:=by
 simp only[qx3,pval];omega
theorem qx5(x:Nat)(h:x<18446744073709551616):Parts (qx3 x):=by
 intro y hy;simp only[qx3,List.mem_cons,List.not_mem_nil,or_false]at hy;rcases hy with rfl|rfl|rfl|rfl
 · exact Nat.mod_lt _ zdc
 · exact Nat.mod_lt _ zdc
 · exact Nat.mod_lt _ zdc
 omega
structure RowAt (A B:List Nat)(i k:Nat)(ai:Nat)(o:List Nat)(c:Nat)(v0:Nat):Prop where
 parts:Parts o
 len:o.length=A.length+B.length
 top:∀j,i+B.length≤j→j<o.length→o[j]? =some 0
 carry:c<65536
 val:pval o+c*65536^(i+k)=v0+ai*pval (B.take k)*65536^i
theorem qx6{A B:List Nat}{c v0:Nat}{o:List Nat}(hB:Parts B)(hai:ai<65536)(h:RowAt A B i k ai o c v0)(hk:B[k]? =some bk)(hj:o[i+k]? =some oj):
 RowAt A B i (k+1) ai (o.set (i+k) ((oj+ai*bk+c) % 65536)) ((oj+ai*bk+c) / 65536) v0:=by
 have hbk:=hB.get hk;have hoj:=h.parts.get hj;have hkl:k<B.length:=(tA8 hk).1;have hm:ai*bk≤65535*65535:=Nat.mul_le_mul zo zo;have hc:=h.carry;obtain⟨n,hn⟩:=xeq (oj+ai*bk+c);refine⟨h.parts.set _ _ (Nat.mod_lt _ zdc),by rw[List.length_set];exact h.len,?_,by omega,?_⟩
 · intro j h1 h2
   rw[List.length_set]at h2;rw[List.getElem?_set_ne zo];exact h.top j h1 h2
 have hs:=qwy o (i+k) ((oj+ai*bk+c) % 65536) oj hj;have hv:=h.val;have ht:=qx0 B k bk hk;rw[hn]at hs ⊢;obtain⟨E,hE⟩:=xeq (65536^(i+k));have hE1:65536^(i+(k+1))=65536*E:=by rw[←hE,←Nat.add_assoc,Nat.pow_succ,Nat.mul_comm]
 have hEi:65536^k*65536^i=E:=by rw[←hE,←Nat.pow_add,Nat.add_comm]
 rw[hE]at hs hv;rw[hE1,ht];have e1:n=65536*(n / 65536)+n % 65536:=(Nat.div_add_mod n 65536).symm;obtain⟨q,hq⟩:=xeq (n / 65536);obtain⟨r,hr⟩:=xeq (n % 65536);rw[hq,hr]at e1;rw[hr]at hs;rw[hr,hq];have e2:q*(65536*E)=65536*q*E:=by rw[←Nat.mul_assoc,Nat.mul_comm q]
 have e3:n*E=65536*q*E+r*E:=by rw[e1,Nat.add_mul]
 have e4:n*E=oj*E+ai*bk*E+c*E:=by rw[←hn,Nat.add_mul,Nat.add_mul]
 have e5:ai*(pval (B.take k)+bk*65536^k)*65536^i=ai*pval (B.take k)*65536^i+ai*bk*E:=by
  rw[Nat.mul_add,Nat.add_mul,←Nat.mul_assoc,Nat.mul_assoc (ai*bk),hEi]
 rw[e2,e5];omega
structure RowsAt (A B:List Nat)(i:Nat)(o:List Nat):Prop where
 parts:Parts o
 len:o.length=A.length+B.length
 top:∀j,i+B.length≤j→j<o.length→o[j]? =some 0
 val:pval o=pval (A.take i)*pval B
theorem qx7:∀n,pval (List.replicate n 0)=0
 |0=>rfl
 |n+1=>by simp[List.replicate_succ,pval,qx7 n]
theorem qx8(A B:List Nat):RowsAt A B 0 (List.replicate (A.length+B.length) 0):=
 ⟨fun x hx=>by obtain rfl:=List.eq_of_mem_replicate hx;decide,by simp,fun j _ h=>by simp at h;simp[h],by simp[qx7,pval]⟩
theorem qx9{A B:List Nat}{o:List Nat}(h:RowsAt A B i o):RowAt A B i 0 ai o 0 (pval o):=
 ⟨h.parts,h.len,h.top,by decide,by simp[pval]⟩
theorem qxa{A B:List Nat}{c:Nat}{o:List Nat}(h0:RowsAt A B i o0)(hi:A[i]? =some ai)(h:RowAt A B i B.length ai o c (pval o0)):
 o[i+B.length]? =some 0∧RowsAt A B (i+1) (o.set (i+B.length) c):=by
 have hil:i<A.length:=(tA8 hi).1;have h1:o[i+B.length]? =some 0:=h.top _ (tA4 _) (by rw[h.len];omega);refine⟨h1,h.parts.set _ _ h.carry,by rw[List.length_set];exact h.len,?_,?_⟩
 · intro j g1 g2
   rw[List.length_set]at g2;rw[List.getElem?_set_ne zo];exact h.top j zo g2
 have hs:=qwy o (i+B.length) c 0 h1;have hv:=h.val;rw[List.take_length,h0.val]at hv;rw[qx0 A i ai hi,Nat.add_mul,Nat.mul_right_comm ai];omega
theorem qxb{A B:List Nat}{o:List Nat}(h:RowsAt A B A.length o):pval o=pval A*pval B:=by
 have:=h.val;rwa[List.take_length]at this
def qxc (x p:Nat)(cube:Bool):Bool:=if cube then decide (x^3≤p*2^96) else decide (x^2≤p*2^64)
theorem qxd{x:Nat}{cube:Bool}(h:x≤y)(hb:qxc y p cube=true):qxc x p cube=true:=by
 unfold qxc at hb ⊢;cases cube with
 |true=>
  simp only[if_true,decide_eq_true_eq]at hb ⊢;exact tB1 (Nat.pow_le_pow_left h 3) hb
 |false=>
  simp only[Bool.false_eq_true,if_false,decide_eq_true_eq]at hb ⊢;exact tB1 (Nat.pow_le_pow_left h 2) hb
def IsRoot (r p:Nat)(cube:Bool):Prop:=qxc r p cube=true∧qxc (r+1) p cube=false
theorem IsRoot.eq{r s:Nat}{cube:Bool}(h:IsRoot r p cube)(k:IsRoot s p cube):r=s:=by
 rcases Nat.lt_trichotomy r s with hlt|rfl|hlt
 · have:=qxd (show r+1≤s from hlt) k.1
   rw[h.2]at this;cases this
 · rfl
 have:=qxd (show s+1≤r from hlt) h.1;rw[k.2]at this;cases this
def qxe (out:List Nat)(p:Nat):Bool:=out.all fun q=>decide (p % q≠0)
def qxf (n:Nat):Nat→Nat→List Nat→List Nat
 |0,_,out=>out
 |f+1,p,out=>if out.length<n then(if qxe out p then qxf n f (p+1) (out++[p]) else qxf n f (p+1) out) else out
def qxg:List Nat:=[2,3,5,7,11,13,17,19,23,29,31,37,41,43,47,53,59,61,67,71,73,79,83,89,97,101,103,107,109,113,127,131,137,139,149,151,157,163,167,173,179,181,191,193,197,199,211,223,227,229,233,239,241,251,257,263,269,271,277,281,283,293,307,311]
theorem qxh:qxf 64 400 2 []=qxg:=by decide+kernel
theorem qxi(n:Nat):∀(f p:Nat) (out:List Nat),n≤out.length→qxf n f p out=out
 |0,_,_,_=>rfl
 |f+1,p,out,h=>by
  unfold qxf;rw[if_neg zo]
theorem qxj(out:List Nat)(p k q:Nat)(h:out[k]? =some q):qxe (out.take (k+1)) p=(qxe (out.take k) p&&decide (p % q≠0)):=by
 unfold qxe;rw[List.take_add_one,h,List.all_append];simp
def qxk (p k:Nat):Nat→Nat
 |0=>0
 |n+1=>if (n+1)^k≤p then n+1 else qxk p k n
def qxl (p r:Nat)(cube:Bool):Bool:=qxc r p cube&&!qxc (r+1) p cube
theorem qxm{r:Nat}{cube:Bool}(h:qxl p r cube=true):IsRoot r p cube:=by
 unfold qxl at h;simp only[Bool.and_eq_true,Bool.not_eq_true']at h;exact h
def u64v (l:List Nat):List Value:=l.map fun n:Nat=>Value.int .u64 (n:Int)
theorem qxn(l:List Nat):(u64v l).length=l.length:=by simp[u64v]
theorem qxo{l:List Nat}{x:Nat}(h:l[i]? =some x):(u64v l)[i]? =some (.int .u64 (x:Int)):=by simp[u64v,h]
theorem qxp(l:List Nat)(i x:Nat):(u64v l).toArray.setIfInBounds i (.int .u64 (x:Int))=(u64v (l.set i x)).toArray:=by simp[u64v,List.map_set]
theorem Tryz.u64_info:(Tryz.prog.info? 32).map (fun i=>(i.zero,i.size,i.bytes))=some (some (.int .u64 0),1,8):=by kernel_rfl
theorem qxq(n:Nat)(hn:n≤1000000)(w:World):(Instr.makeSlice 212 (.int .i64 (n:Int)) (.int .i64 (n:Int))).run Tryz.prog w=.ok (.slice (some ⟨w.heap.size,0,none⟩) n n) (w.alloc (.cells (u64v (List.replicate n 0)).toArray 32)):=by
 obtain⟨i0,hi0,hz0,hz1,hz2⟩:=info_parts Tryz.u64_info;have h:=run_make (P:=Tryz.prog) w 212 32 i0 _ Tryz.underlying212 hi0 hz0 .i64 .i64 n n zo (Int.le_refl _) (by rw[hz2];omega) zo;rw[h,hz1];have e:madeCells (Value.int .u64 0).cells ((n:Int).toNat*1)=(u64v (List.replicate n 0)).toArray:=by
  apply Array.ext';rw[show (Value.int .u64 0).cells=#[Value.int .u64 0] from rfl,toList_madeCells_one];simp[u64v]
 rw[e];simp
theorem qxr{l:List Nat}(h:Reads w B 1 A n (u64v l)):l.length=n:=by
 have:=h.1;simpa [u64v] using this
theorem qxs{l:List Nat}(h:Blk w g 32 (u64v l).toArray):Reads w w.heap.size 1 (some ⟨g,0,none⟩) l.length (u64v l):=by
 refine⟨by rw[qxn,Nat.mul_one],fun _=>⟨_,rfl,h.lt,fun j u hu=>?_⟩⟩;rw[Addr.add_mid,h.cell (0+j),Nat.zero_add];simpa using hu
theorem qxt(n:Nat)(hn:n<18446744073709551616):bits .and .u64 (n:Int) 65535=((n % 65536:Nat):Int):=by
 have h:=bits_and_u64_nat n 65535 hn zdc;rw[show ((65535:Nat):Int)=65535 from rfl]at h;rw[h,show (65535:Nat)=2^16 - 1 from rfl,Nat.and_two_pow_sub_one_eq_mod]
theorem qxu(x:Nat)(w:World)(hx:x<18446744073709551616):
 Zc 218 #[.int .u64 x] w fun e w'=>e=.returned (.slice (some ⟨w.heap.size,0,none⟩) 4 4)∧Blk w' w.heap.size 32 (u64v (qx3 x)).toArray∧Zb w w':=by
 obtain⟨x1,h1⟩:=xeq (x / 65536);obtain⟨x2,h2⟩:=xeq (x / 4294967296);obtain⟨x3,h3⟩:=xeq (x / 281474976710656);have a0:=qxt x hx;have a1:=qxt x1 zo;have a2:=qxt x2 zo;have q1:(x:Int) / 65536=x1:=zo;have q2:(x:Int) / 4294967296=x2:=zo;have q3:(x:Int) / 281474976710656=x3:=zo;have e:qx3 x=[x % 65536,x1 % 65536,x2 % 65536,x3]:=by rw[←h1,←h2,←h3];rfl
 rw[e];clear h1 h2 h3 e;go_enter Tryz.func218,Tryz.ntmps218
 go_wp2
 go_ret
 exact⟨rfl,Blk.new _ _ _,(tA5 _ _).alloc (tA4 _) _⟩
theorem qxv(A B:List Nat)(pa pb:Option Addr)(na ca nb cb:Nat)(w:World)(ha:Reads w w.heap.size 1 pa na (u64v A))(hb:Reads w w.heap.size 1 pb nb (u64v B))(h1:0<na)(h2:0<nb)(h3:na≤1000)(h4:nb≤1000)(hA:Parts A)(hB:Parts B):
 Zc 219 #[.slice pa na ca,.slice pb nb cb] w fun e w'=>∃o:List Nat,e=.returned (.slice (some ⟨w.heap.size,0,none⟩) (na+nb) (na+nb))∧Blk w' w.heap.size 32 (u64v o).toArray∧o.length=na+nb∧Parts o∧pval o=pval A*pval B∧Below w.heap.size w w':=by
 have lA:=qxr ha;have lB:=qxr hb;obtain⟨m,hm⟩:=xeq (na+nb);have hmi:(na:Int)+nb=m:=zo;have mk:=fun w=>qxq m zo w
 obtain⟨Z,hZ⟩:=xeq ((u64v (List.replicate m 0)).toArray);simp only[hZ]at mk;have z0:=Blk.new w 32 Z;have b0:Below w.heap.size w (w.alloc (.cells Z 32)):=(tA5 _ _).alloc (tA4 _) _;obtain⟨W0,hW0⟩:=eqx (w.alloc (.cells Z 32));rw[←hW0]at z0 b0;rw[←hZ]at z0;obtain⟨ba,oa,rfl,hba,hca⟩:=ha.mid zo zo;obtain⟨bb,ob,rfl,hbb,hcb⟩:=hb.mid zo zo;obtain⟨g,hg⟩:=xeq w.heap.size;have r0:=qx8 A B;rw[lA,lB,hm]at r0;obtain⟨A4,A5,HA,HBp,LA,LB,HM,Z0⟩:=zh8 hca hcb hA hB lA lB hm (show Blk W0 g 32 (u64v (List.replicate m 0)).toArray by rw[←hg];exact z0);obtain⟨B0,R0,A6⟩:=zh3 (show Below g w W0 by rw[←hg];exact b0) r0 hW0;(try simp only[Zb]at hba hbb);rw[hg]at hba hbb ⊢
 have HG:=zh1 hg;clear ha hb lA lB hA hB hca hcb z0 b0 r0 hZ hW0 hm hg;go_enter Tryz.func219,Tryz.ntmps219
 go_upto_region 2 with(fail)
 rw[←A6.o,HG.o];clear mk hmi;go_wp2_with fail
 go_loopw [6] (fun i wr=>∃(k:Nat) (o:List Nat),k≤na∧i=.int .i64 k∧Hid (RowsAt A B k o)∧Hid (Blk wr g 32 (u64v o).toArray)∧Hid (Below g w wr)) (fun i _=>na - (intOf i).toNat)
 case atStart=>exact⟨0,_,by omega,rfl,R0.o,Z0.o,B0.o⟩
 case round=>
  clear R0 Z0 B0;obtain⟨k,o,hk,rfl,hrows,hblk,hbel⟩:=hrel;by_cases hlt:k<na
  ·
   obtain⟨ai,hai⟩:∃x,A[k]? =some x:=⟨_,tA7 (by rw[LA.o];exact hlt)⟩;have hai1:=HA.get hai;obtain⟨A3,RS⟩:=zh2 hai (qx9 (ai:=ai) hrows.o);clear hai;have qk:(k:Int)<na:=zo;go_wp2_with fail
   go_loopw [7,8] (fun c j wr=>∃(jk:Nat) (o':List Nat) (cv:Nat),jk≤nb∧cv<65536∧c=.int .u64 cv∧j=.int .i64 jk∧Hid (RowAt A B k jk ai o' cv (pval o))∧Hid (Blk wr g 32 (u64v o').toArray)∧Hid (Below g w wr)) (fun _ j _=>nb - (intOf j).toNat)
   case atStart=>exact⟨0,o,0,by omega,by omega,rfl,rfl,RS.o,hblk.o,hbel.o⟩
   case round=>
    clear RS hblk hbel;obtain⟨jk,o',cv,hj,hcv,rfl,rfl,hrow,hblk,hbel⟩:=hrel;have lo:o'.length=m:=by rw[hrow.len,LA.o,LB.o];exact HM.o
    by_cases hlj:jk<nb
    ·
     obtain⟨bk,hbk⟩:∃x,B[jk]? =some x:=⟨_,tA7 (by rw[LB.o];exact hlj)⟩;obtain⟨oj,hoj⟩:∃x,o'[k+jk]? =some x:=⟨_,tA7 (by rw[lo];have:=HM.o;omega)⟩;have hbk1:=HBp.get hbk;have hoj1:=hrow.parts.get hoj;have ca:=(hbel.cell (p:=⟨ba,oa+k,none⟩) hba).trans (A4.o k _ (qxo A3.o));have cb:=(hbel.cell (p:=⟨bb,ob+jk,none⟩) hbb).trans (A5.o jk _ (qxo hbk));have A0:=qx6 HBp.o hai1 hrow.o hbk hoj;have hpm:ai*bk≤65535*65535:=Nat.mul_le_mul zo zo;obtain⟨s,hs⟩:=xeq (k+jk);rw[hs]at hoj A0;have co:=(hblk.cell s).trans (show _=some (.int .u64 (oj:Int)) by simpa using qxo hoj);have cf:=hblk.frozen s;have hsm:s<m:=by have:=HM.o;omega
     obtain⟨pm,hpm'⟩:=xeq (ai*bk);rw[hpm']at A0 hpm;obtain⟨n,hn⟩:=xeq (oj+pm+cv);rw[hn]at A0;obtain⟨nd,hnd⟩:=xeq (n / 65536);obtain⟨nm,hnm⟩:=xeq (n % 65536);rw[hnd,hnm]at A0;have ST:=zh1 A0;have f1:IntKind.i64.wrap ((k:Int)+jk)=s:=by rw[show (k:Int)+jk=s by omega];exact tBb _ zo
     have f2:IntKind.u64.wrap ((ai:Int)*bk)=pm:=by
      rw[show (ai:Int)*bk=pm by rw[←hpm'];simp];exact tBa _ zo
     have f3:IntKind.u64.wrap ((oj:Int)+pm)=((oj+pm:Nat):Int):=by rw[show (oj:Int)+pm=((oj+pm:Nat):Int) by omega];exact tBa _ zo
     have f4:IntKind.u64.wrap (((oj+pm:Nat):Int)+cv)=n:=by rw[show ((oj+pm:Nat):Int)+cv=n by omega];exact tBa _ zo
     obtain⟨op,hop⟩:=xeq (oj+pm);rw[hop]at f3 f4;have f5:bits .and .u64 (n:Int) 65535=nm:=by rw[qxt n zo,hnm]
     have f6:(n:Int) / 65536=nd:=zo;have qs:(s:Int)<m:=zo;have G1:=zh1 (show (k:Int)+jk=s by omega);have qj:(jk:Int)<nb:=zo;have hnd1:nd<65536:=zo;have A1:=zh1 (show Blk (wr.drew.setCell ⟨g,s,none⟩ (.int .u64 (nm:Int))) g 32 (u64v (o'.set s nm)).toArray by
      have:=(hblk.drew).set_ s (.int .u64 (nm:Int));rw[qxp]at this;exact this)
     have A2:=zh1 (show Below g w (wr.drew.setCell ⟨g,s,none⟩ (.int .u64 (nm:Int))) from hbel.drew.setCell (p:=⟨g,s,none⟩) (tA4 _) _);clear hbk hoj A0 hs hpm' hn hnd hnm hop hpm hrow hblk hbel;go_upto_region 9 with(fail)
     obtain⟨S,HS⟩:=zS fun w'=>w'.cell? ⟨g,s,none⟩=some (.int .u64 (oj:Int))∧w'.cell? ⟨ba,oa+k,none⟩=some (.int .u64 (ai:Int))∧w'.cell? ⟨bb,ob+jk,none⟩=some (.int .u64 (bk:Int))
     refine zrs S 19 (zq 0 19 []) ((HS.o _).mpr ⟨co,ca,cb⟩) ?_;repeat(refine zrt0 ?_)
     refine qbf ?_;clear f1 f2 f3 f4;have f1:=G1.o;go_wp2
     go_roundw
     case rel=>exact⟨jk+1,_,nd,by omega,hnd1,rfl,by go_num,ST,A1,A2⟩
     case measure=>simp[intOf];omega
    obtain rfl:nb=jk:=zo;have hrow':=hrow.o;rw[←LB.o]at hrow';obtain⟨e1,e2⟩:=qxa hrows.o A3.o hrow';rw[LB.o]at e1 e2;obtain⟨s,hs⟩:=xeq (k+nb);rw[hs]at e1 e2;have co:=(hblk.cell s).trans (show _=some (.int .u64 ((0:Nat):Int)) by simpa using qxo e1);rw[show ((0:Nat):Int)=0 from rfl]at co;have cf:=hblk.frozen s;have hsm:s<m:=by have:=HM.o;omega
    have f1:(k:Int)+nb=s:=zo;have qs:(s:Int)<m:=zo;have q0:¬(nb:Int)<nb:=zo;have ER:=zh1 e2;have A1:=zh1 (show Blk (wr.setCell ⟨g,s,none⟩ (.int .u64 (cv:Int))) g 32 (u64v (o'.set s cv)).toArray by
     have:=hblk.set_ s (.int .u64 (cv:Int));rw[qxp]at this;exact this)
    have A2:=zh1 (show Below g w (wr.setCell ⟨g,s,none⟩ (.int .u64 (cv:Int))) from hbel.setCell (p:=⟨g,s,none⟩) (tA4 _) _);clear hrow hrow' hrows e1 e2 hs hblk hbel lo;go_wp2
    go_roundw
    case rel=>exact⟨k+1,_,by omega,by go_num,ER,A1,A2⟩
    case measure=>simp[intOf];omega
  obtain rfl:na=k:=zo;have hr:=hrows.o;rw[←LA.o]at hr;have hv:=qxb hr;have HR:=zh1 (show o.length=na+nb∧Parts o∧pval o=pval A*pval B from⟨by rw[hr.len,LA.o,LB.o],hr.parts,hv⟩);clear hr hv;go_wp2
  go_ret
  exact⟨o,by rw[HM.o];rfl,hblk.o,HR.o.1,HR.o.2.1,HR.o.2.2,hbel.o⟩
def qxw (len n p:Nat):List Nat:=((List.replicate len 0).set n (p % 65536)).set (n+1) (p / 65536)
theorem qxx(len n p:Nat):(qxw len n p).length=len:=by simp[qxw]
theorem qxy(len n p:Nat)(hp:p<4294967296):Parts (qxw len n p):=by
 have h0:Parts (List.replicate len 0):=fun x hx=>by obtain rfl:=List.eq_of_mem_replicate hx;decide
 exact(h0.set _ _ (Nat.mod_lt _ zdc)).set _ _ zo
theorem qxz(len n p:Nat)(hn:n+1<len):pval (qxw len n p)=p*65536^n:=by
 have h1:=qwy (List.replicate len 0) n (p % 65536) 0 (by rw[List.getElem?_replicate,if_pos zo]);rw[qx7]at h1;have h2:=qwy ((List.replicate len 0).set n (p % 65536)) (n+1) (p / 65536) 0 (by rw[List.getElem?_set_ne zo,List.getElem?_replicate,if_pos zo]);unfold qxw;rw[Nat.pow_succ]at h2;obtain⟨E,hE⟩:=xeq (65536^n);rw[hE]at h1 h2 ⊢;have e1:p / 65536*(E*65536)=65536*(p / 65536)*E:=by rw[Nat.mul_comm E,←Nat.mul_assoc,Nat.mul_comm (p / 65536)]
 have e2:p*E=65536*(p / 65536)*E+p % 65536*E:=by rw[←Nat.add_mul,Nat.div_add_mod]
 rw[e1]at h2;omega
theorem qy0{a b:List Nat}(ha:Parts a)(hb:Parts b)(hl:a.length=b.length)(i x y:Nat)(hx:a[i]? =some x)(hy:b[i]? =some y)(hd:a.drop (i+1)=b.drop (i+1))(h:x≠y):decide (x<y)=decide (pval a≤pval b):=by
 rcases Nat.lt_or_ge x y with hlt|hge
 · have:=qx2 ha hb hl i x y hx hy hd hlt
   simp[hlt];omega
 have:=qx2 hb ha hl.symm i y x hy hx hd.symm zo;have h1:¬x<y:=zo;simp[h1];omega
theorem qy1{a b:List Nat}{x:Nat}(hx:a[i]? =some x)(hy:b[i]? =some x)(hd:a.drop (i+1)=b.drop (i+1)):a.drop i=b.drop i:=by
 have h1:a.drop i=x::a.drop (i+1):=by
  obtain⟨h,e⟩:=tA8 hx;rw[←e];exact List.drop_eq_getElem_cons h
 have h2:b.drop i=x::b.drop (i+1):=by
  obtain⟨h,e⟩:=tA8 hy;rw[←e];exact List.drop_eq_getElem_cons h
 rw[h1,h2,hd]
theorem qy2(x p:Nat)(cube:Bool)(w:World)(hx:x<18446744073709551616)(hp:p<4294967296):
 Zc 177 #[.int .u64 x,.int .u64 p,.bool cube] w fun e w'=>e=.returned (.bool (qxc x p cube))∧Below w.heap.size w w':=by
 go_enter Tryz.func177,Tryz.ntmps177
 go_wp2_with fail
 refine(qxu x w hx).mono ?_;rintro e w1 ⟨rfl,k1,b1⟩;have r1:=qxs k1;rw[show (qx3 x).length=4 from rfl]at r1;have PL:=qx5 x hx;have VL:=qx4 x hx;obtain⟨HP,HV,R1,B1⟩:=zh4 PL VL r1 b1;clear k1 b1 r1 PL VL;go_wp2_with fail
 refine(qxv (qx3 x) (qx3 x) _ _ 4 4 4 4 w1 R1.o R1.o zdc zdc zdc zdc HP.o HP.o).mono ?_;rintro e w2 ⟨o,rfl,k2,l2,p2,v2,b2⟩;obtain⟨B2,R1',K2⟩:=zh3 (B1.trans (b2.mono B1.size)) (R1.call b2) k2;have r2:=qxs k2;rw[l2]at r2;obtain⟨R2,L2,P2⟩:=zh3 r2 l2 p2;rw[HV.o]at v2;have V2:=zh1 v2;clear k2 l2 p2 v2 b2 r2 R1 B1;rw[show 4+4=8 from rfl]at R2 L2 ⊢;go_upto_if 17 with(fail)
 go_cut [8,9] (fun s8 s9 wx=>∃(o':List Nat) (g L n:Nat),s8=.slice (some ⟨g,0,none⟩) L L∧s9=.int .i64 n∧n+1<L∧L≤12∧Hid (Blk wx g 32 (u64v o').toArray)∧Hid (o'.length=L∧Parts o')∧Hid (decide (pval o'≤p*65536^n)=qxc x p cube)∧Hid (Below w.heap.size w wx))
 case first=>
  cases cube with
  |false=>
   have hv:decide (pval o≤p*65536^4)=qxc x p false:=by
    rw[V2.o];unfold qxc;simp only[Bool.false_eq_true,if_false];rw[show (65536:Nat)^4=2^64 from by decide,Nat.pow_two]
   have A0:=zh1 hv;clear hv;go_wp2
   go_meet
   case rel=>exact⟨o,w1.heap.size,8,4,rfl,rfl,by omega,by omega,K2,⟨L2.o,P2.o⟩,A0,B2⟩
  |true=>
   go_wp2_with fail
   refine(qxv o (qx3 x) _ _ 8 8 4 4 w2 R2.o R1'.o zdc zdc zdc zdc P2.o HP.o).mono ?_;rintro e w3 ⟨o3,rfl,k3,l3,p3,v3,b3⟩;rw[V2.o,HV.o]at v3;have hv:decide (pval o3≤p*65536^6)=qxc x p true:=by
    rw[v3];unfold qxc;simp only[if_true];rw[show (65536:Nat)^6=2^96 from by decide,show x^3=x*x*x from by rw[Nat.pow_succ,Nat.pow_two]]
   obtain⟨A0,K3,HL,B3⟩:=zh4 hv k3 (show o3.length=12∧Parts o3 from⟨l3,p3⟩) (B2.trans (b3.mono B2.size));clear k3 l3 p3 v3 b3 hv;rw[show 8+4=12 from rfl];go_wp2
   go_meet
   case rel=>exact⟨o3,w2.heap.size,12,6,rfl,rfl,by omega,by omega,K3,HL,A0,B3⟩
 case rest=>
  obtain⟨o',g,L,n,rfl,rfl,hnL,hL12,K3,HL,A0,B3⟩:=hcut;obtain⟨w3,rfl⟩:=eqx wc;clear B2 R1' K2 R2 L2 P2 V2 HP HV;have mk:=fun w=>qxq L zo w
  obtain⟨Z,hZ⟩:=xeq ((u64v (List.replicate L 0)).toArray);simp only[hZ]at mk;obtain⟨pm,hpm⟩:=xeq (p % 65536);obtain⟨pd,hpd⟩:=xeq (p / 65536);have f1:bits .and .u64 (p:Int) 65535=pm:=by rw[qxt p zo,hpm]
  have f2:(p:Int) / 65536=pd:=zo;have z0:=Blk.new w3 32 Z;obtain⟨w4,hw4⟩:=eqx (w3.alloc (.cells Z 32));rw[←hw4]at z0;rw[←hZ]at z0;have k4:Blk w4 g 32 (u64v o').toArray:=by rw[hw4];exact K3.alloc _
  have b4:Below w.heap.size w w4:=by rw[hw4];exact B3.alloc B3.size _
  have hgl:g<w3.heap.size:=K3.lt;have hws:w.heap.size≤w3.heap.size:=B3.size;obtain⟨G,hG⟩:=xeq w3.heap.size;rw[hG]at z0 hgl hws;obtain⟨HG,A1⟩:=zh2 hG hw4;have zc:=(z0.cell n).trans (show _=some (.int .u64 0) by simpa using qxo (show (List.replicate L 0)[n]? =some 0 by rw[List.getElem?_replicate,if_pos zo]));have zf:=z0.frozen n;have z1:=z0.set_ n (.int .u64 (pm:Int));rw[qxp]at z1;have k5:=k4.far (p:=⟨G,n,none⟩) (by show g≠G;omega) (.int .u64 (pm:Int));have b5:=b4.setCell (p:=⟨G,n,none⟩) (by show w.heap.size≤G;omega) (.int .u64 (pm:Int));obtain⟨w5,hw5⟩:=eqx (w4.setCell ⟨G,n,none⟩ (.int .u64 (pm:Int)));rw[←hw5]at z1 k5 b5;have zc1:=(z1.cell (n+1)).trans (show _=some (.int .u64 0) by simpa using qxo (show ((List.replicate L 0).set n pm)[n+1]? =some 0 by rw[List.getElem?_set_ne zo,List.getElem?_replicate,if_pos zo]));have zf1:=z1.frozen (n+1);have z2:=z1.set_ (n+1) (.int .u64 (pd:Int));rw[qxp]at z2;have k6:=k5.far (p:=⟨G,n+1,none⟩) (by show g≠G;omega) (.int .u64 (pd:Int));have b6:=b5.setCell (p:=⟨G,n+1,none⟩) (by show w.heap.size≤G;omega) (.int .u64 (pd:Int));obtain⟨n1,hn1⟩:=xeq (n+1);rw[hn1]at zc1 zf1 z2 k6 b6 hnL;have hn1i:(n:Int)+1=n1:=zo;obtain⟨w6,hw6⟩:=eqx (w5.setCell ⟨G,n1,none⟩ (.int .u64 (pd:Int)));rw[←hw6]at z2 k6 b6;have Z2:Hid (Blk w6 G 32 (u64v (qxw L n p)).toArray):=by
   unfold qxw;rw[hn1,hpm,hpd];exact z2
  obtain⟨K6,B6,A2,A3,A5⟩:=zh5 k6 b6 hw5 hw6 hn1;have qL:(n1:Int)<L:=zo;have qn:(n:Int)<L:=zo;have WV:Hid (pval (qxw L n p)=p*65536^n):=qxz L n p zo;have WL:Hid ((qxw L n p).length=L):=qxx L n p;have WP:Hid (Parts (qxw L n p)):=qxy L n p hp;obtain⟨W,hWW⟩:=xeq (qxw L n p);rw[hWW]at Z2 WV WL WP;clear z0 z1 z2 k4 k5 k6 b4 b5 b6 hw4 hw5 hw6 hn1 hpm hpd hG hZ hWW K3 B3;go_upto_region 8 with(fail)
  rw[←A1.o,HG.o];go_upto_region 10 with(fail)
  rw[←A2.o];clear zc zf f1 mk;go_upto_region 11 with(fail)
  rw[←A3.o];clear zc1 zf1 f2 hn1i;go_wp2_with fail
  go_loopw [11] (fun i wr=>∃m:Nat,m≤L∧i=.int .i64 ((m:Int) - 1)∧Hid (o'.drop m=W.drop m)∧Hid (Blk wr g 32 (u64v o').toArray)∧Hid (Blk wr G 32 (u64v W).toArray)∧Hid (Below w.heap.size w wr)) (fun i _=>(intOf i+1).toNat)
  case atStart=>exact⟨L,by omega,rfl,by show o'.drop L=W.drop L;rw[List.drop_eq_nil_of_le (by rw[HL.o.1];omega),List.drop_eq_nil_of_le (by rw[WL.o];omega)],K6.o,Z2.o,B6.o⟩
  case round=>
   clear K6 Z2 B6;obtain⟨m,hm,rfl,hdr,hko,hkw,hbe⟩:=hrel;cases m with
   |zero=>
    have hb:qxc x p cube=true:=by
     rw[←A0.o,show o'=W by simpa using hdr.o,WV.o];simp
    have A4:=zh1 hb;clear hb;go_wp2
    go_ret
    exact⟨by rw[A4.o];rfl,hbe.o⟩
   |succ m=>
    have em:((m+1:Nat):Int) - 1=m:=zo;rw[em];clear em;obtain⟨x1,hx1⟩:∃y,o'[m]? =some y:=⟨_,tA7 (by rw[HL.o.1];omega)⟩;obtain⟨y1,hy1⟩:∃y,W[m]? =some y:=⟨_,tA7 (by rw[WL.o];omega)⟩;have c1:=(hko.cell m).trans (show _=some (.int .u64 (x1:Int)) by simpa using qxo hx1);have c2:=(hkw.cell m).trans (show _=some (.int .u64 (y1:Int)) by simpa using qxo hy1);have qm:(m:Int)<L:=zo;obtain⟨S,HS⟩:=zS fun w'=>w'.cell? ⟨g,m,none⟩=some (.int .u64 (x1:Int))∧w'.cell? ⟨G,m,none⟩=some (.int .u64 (y1:Int))
    by_cases he:x1=y1
    ·
     subst he;have HD:=zh1 (qy1 hx1 hy1 hdr.o);clear hx1 hy1 hdr;go_upto_region 14 with(fail)
     refine zrs S 9 (zq 0 9 []) ((HS.o _).mpr ⟨c1,c2⟩) ?_;repeat(refine zrt0 ?_)
     refine qbf ?_;obtain⟨K7,Z7,B7⟩:=zh3 hko.drew hkw.drew hbe.drew;clear c1 c2 hko hkw hbe;go_wp2
     go_roundw
     case rel=>exact⟨m,by omega,rfl,HD,K7,Z7,B7⟩
     case measure=>simp[intOf]
    have q:¬(x1:Int)=y1:=zo;have ht:=qy0 HL.o.2 WP.o (by rw[HL.o.1,WL.o]) m x1 y1 hx1 hy1 hdr.o he;rw[WV.o,A0.o]at ht;have HT:=zh1 ht;have qt:decide ((x1:Int)<y1)=decide (x1<y1):=by rw[Bool.eq_iff_iff];simp
    have QT:=zh1 qt;clear hx1 hy1 hdr ht qt;go_upto_region 14 with(fail)
    refine zrs S 9 (zq 0 9 []) ((HS.o _).mpr ⟨c1,c2⟩) ?_;repeat(refine zrt0 ?_)
    refine qbf ?_;have k1:wr.drew.cell? ⟨g,m,none⟩=some (.int .u64 (x1:Int)):=c1;have k2:wr.drew.cell? ⟨G,m,none⟩=some (.int .u64 (y1:Int)):=c2;go_upto_region 15 with(fail)
    refine zrs S 10 (zq 0 10 []) ((HS.o _).mpr ⟨c1,c2⟩) ?_;repeat(refine zrt0 ?_)
    refine qbf ?_;have B7:=zh1 hbe.drew.drew;clear c1 c2 k1 k2 hko hkw hbe;go_wp2
    go_ret
    exact⟨by rw[←HT.o,←QT.o];rfl,B7.o⟩
theorem qy3(p:Nat)(cube:Bool):qxc 0 p cube=true:=by unfold qxc;cases cube<;>simp
theorem qy4(p:Nat)(cube:Bool)(hp:p<1000):qxc 171798691840 p cube=false:=by
 unfold qxc;cases cube with
 |true=>
  have e:(171798691840:Nat)^3=64000*2^96:=by decide
  simp only[if_true,decide_eq_false_iff_not];rw[e];intro h;have:=Nat.le_of_mul_le_mul_right h zdc;omega
 |false=>
  have e:(171798691840:Nat)^2=1600*2^64:=by decide
  simp only[Bool.false_eq_true,if_false,decide_eq_false_iff_not];rw[e];intro h;have:=Nat.le_of_mul_le_mul_right h zdc;omega
theorem qy5(p:Nat)(cube:Bool)(w:World)(hp:p<1000):
 Zc 123 #[.int .u64 p,.bool cube] w fun e w'=>(∃r:Nat,IsRoot r p cube∧e=.returned (.int .u32 ((r % 4294967296:Nat):Int)))∧Zb w w':=by
 obtain⟨H0,HT⟩:=zh2 (qy3 p cube) (qy4 p cube hp);go_enter Tryz.func123,Tryz.ntmps123
 go_wp2_with fail
 go_loopw [5,6] (fun a b wr=>∃lo hi:Nat,lo<hi∧hi≤171798691840∧a=.int .u64 lo∧b=.int .u64 hi∧Hid (qxc lo p cube=true)∧Hid (qxc hi p cube=false)∧Hid (Zb w wr)) (fun a b _=>(intOf b - intOf a).toNat)
 case atStart=>exact⟨0,171798691840,by omega,by omega,rfl,rfl,H0.o,HT.o,tA5 _ _⟩
 case round=>
  obtain⟨lo,hi,hlt,htop,rfl,rfl,hlo,hhi,hbe⟩:=hrel;by_cases h1:1<hi - lo
  ·
   obtain⟨m,hm⟩:=xeq ((lo+hi) / 2);have m1:lo<m:=zo;have m2:m<hi:=zo;have q1:(1:Int)<hi - lo:=zo;have q2:((lo:Int)+hi) / 2=m:=zo;have q3:(0:Int)≤hi - lo:=zo;clear hm h1;go_wp2_with fail
   refine zcb (qy2 m p cube _ zo zo) fun w2 b2=>?_
   have B2:=zh1 (hbe.trans (b2.mono hbe.size));obtain⟨b,hb⟩:=xeq (qxc m p cube);have HBm:=zh1 hb;rw[hb];clear hb b2 hbe;cases b with
   |true=>
    go_wp2
    go_roundw
    case rel=>exact⟨m,hi,by omega,by omega,rfl,rfl,HBm,hhi,B2⟩
    case measure=>simp[intOf];omega
   |false=>
    go_wp2
    go_roundw
    case rel=>exact⟨lo,m,by omega,by omega,rfl,rfl,hlo,HBm,B2⟩
    case measure=>simp[intOf];omega
  obtain rfl:hi=lo+1:=zo;have q1:¬(1:Int)<((lo+1:Nat):Int) - lo:=zo;have q3:(0:Int)≤((lo+1:Nat):Int) - lo:=zo;have hw:IntKind.u32.wrap (lo:Int)=((lo % 4294967296:Nat):Int):=by rw[IntKind.wrap_u32];omega
  clear h1;go_wp2
  go_ret
  exact⟨⟨lo,⟨hlo.o,hhi.o⟩,rfl⟩,hbe.o⟩
def OwnU (w:World)(base:Nat)(v:Value)(l:List Nat):Prop:=w.ownsRow base 32 1 v l.length (u64v l)
theorem qy6(l:List Nat):∀u∈u64v l,u.oneCell'=true:=by
 intro u hu;obtain⟨x,_,rfl⟩:=List.mem_map.1 hu;rfl
section
variable {w w' : World} {base : Nat} {v : Value} {l : List Nat}
theorem OwnU.nil(w:World)(base:Nat):OwnU w base (.slice none 0 0) []:=World.ownsRow_nil ..
theorem OwnU.sl(h:OwnU w base v l):∃A n c,v=.slice A n c∧n=l.length∧n≤c∧c≤maxLen∧Reads w w.heap.size 1 A n (u64v l):=by
 obtain⟨A,c,h1,h2,h3,h4⟩:=qaf h;exact⟨A,_,c,h1,rfl,h2,h3,h4⟩
theorem OwnU.kept(h:OwnU w base v l)(hb:Zb w w'):OwnU w' base v l:=
 tB3 h ⟨hb.os,hb.tape,hb.output,hb.size,fun k hk _=>hb.block k hk⟩ (row:=none) (by cases v.ownBlock<;>simp)
theorem OwnU.alloc(h:OwnU w base v l)(o:Obj):OwnU (w.alloc o) base v l:=h.kept ((tA5 _ _).alloc (tA4 _) o)
end
theorem qy7{ops:Array Oper}(hgd:o.guard=none)(s x:Operand)
 (ho:o.op=.call {callee:=.builtin .append,args:=#[s,x],argTypes:=#[212,212]})
 (base:Nat)(v:Value)(bs:List Nat)(hs:a.eval s=v)(hown:OwnU w base v bs)(A:Option Addr)(m c:Nat)(news:List Nat)(hx:a.eval x=.slice A m c)(hr:Reads w w.heap.size 1 A m (u64v news))
 (hlen:bs.length+m≤65536)(hbase:base≤w.heap.size)
 (h:∀v' w',OwnU w' base v' (bs++news)→Below base w w'→w.grownBy w' v.ownBlock→wpList Tryz.prog ops Q rest (a.put o.dst v') w'):wpList Tryz.prog ops Q (o::rest) a w:=by
 obtain⟨i0,hi0,hz0,hz1,hz2⟩:=info_parts Tryz.u64_info;have hm:news.length=m:=qxr hr;refine qa7 (P:=Tryz.prog) w hgd s x _ ho base 32 i0 _ 1 8 Tryz.underlying212 hi0 hz0 hz1 hz2 rfl zo v bs.length (u64v bs) hs hown w.heap.size A m c (u64v news) hx hr (qy6 _) (by simp only[maxLen];omega) zo hbase ?_;intro v' w' h1 h2 h3;refine h v' w' ?_ ?_ h2
 · unfold OwnU
   rw[tA6,hm];simpa [u64v] using h1
 exact qae (tA5 _ _) hown h2 (tA4 _) hbase
theorem qy8(w:World)(p:Nat):Reads (w.alloc (.cells #[.int .u64 (p:Int)] 32)) (w.alloc (.cells #[.int .u64 (p:Int)] 32)).heap.size 1 (some ⟨w.heap.size,0,none⟩) 1 (u64v [p]):=by
 have:=Reads.new1 w 32 (.int .u64 (p:Int));simpa [u64v] using this
theorem qy9(h:out.length<64)(hp:qxf 64 f p out=qxg):∃g,f=g+1∧qxf 64 g (p+1) (if qxe out p then out++[p] else out)=qxg:=by
 cases f with
 |zero=>
  have e:out=qxg:=hp;rw[e]at h;exact absurd h zdc
 |succ g=>
  refine⟨g,rfl,?_⟩;unfold qxf at hp;rw[if_pos h]at hp;split at hp
  · rename_i hn
    rw[if_pos hn];exact hp
  rename_i hn
  rw[if_neg hn];exact hp
theorem qya(w:World):
 Zc 122 #[.int .i64 64] w fun e w'=>∃v,e=.returned v∧OwnU w' w.heap.size v qxg∧Zb w w':=by
 have H0:=zh1 qxh;go_enter Tryz.func122,Tryz.ntmps122
 go_wp2_with fail
 go_loopw [3,4] (fun a b wr=>∃(out:List Nat) (p f:Nat),p+f=402∧2≤p∧b=.int .u64 p∧out.length≤64∧Hid (qxf 64 f p out=qxg)∧Hid (∀q∈out,2≤q∧q≤402)∧Hid (OwnU wr w.heap.size a out)∧Hid (Zb w wr)) (fun _ b _=>402 - (intOf b).toNat)
 case atStart=>exact⟨[],2,400,by omega,by omega,rfl,by simp,H0.o,fun q hq=>(nomatch hq),OwnU.nil _ _,tA5 _ _⟩
 case round=>
  clear H0;obtain⟨out,p,f,hf,hp2,rfl,hlo,hgo,hq2,hown,hbe⟩:=hrel;obtain⟨A,n,c,rfl,hn,hnc,hcm,hrd⟩:=hown.sl;obtain⟨HN,HR⟩:=zh2 hn hrd;by_cases hlt:n<64
  ·
   obtain⟨f',rfl,hgo'⟩:=qy9 (by rw[←HN.o];exact hlt) hgo.o;have HG:=zh1 hgo';have q1:(n:Int)<64:=zo;clear hgo' hgo hn hrd;go_wp2_with fail
   go_loop [5,6] (fun a b=>∃k:Nat,k≤n∧b=.int .i64 k∧a=.bool (qxe (out.take k) p)) (fun _ b=>n - (intOf b).toNat)
   case atStart=>exact⟨0,by omega,rfl,rfl⟩
   case round=>
    obtain⟨k,hk,rfl,rfl⟩:=hrel;by_cases hkl:k<n
    ·
     have q2:(k:Int)<n:=zo;obtain⟨q,hq⟩:∃q,out[k]? =some q:=⟨_,tA7 (by rw[←HN.o];exact hkl)⟩;have hqb:=hq2.o q (tB2 hq);obtain⟨b,o,rfl,hab,hcell⟩:=HR.mid zo zo;have ck:=hcell k _ (qxo hq);have hst:=qxj out p k q hq;have A0:=zh1 hst;obtain⟨bb,hbb⟩:=xeq (qxe (out.take k) p);have A1:=zh1 hbb;rw[hbb];have q3:(0:Int)<q:=zo;have q4:¬(q:Int)=0:=zo;obtain⟨r,hr⟩:=xeq (p % q);have q5:(p:Int) % q=r:=by rw[←hr];simp
     have A3:=zh1 hr;clear hq hcell hst hbb hr;cases bb with
     |false=>
      go_wp2
      go_round
      case rel=>exact⟨k+1,by omega,by go_num,by rw[A0.o,A1.o];rfl⟩
      case measure=>simp[intOf];omega
     |true=>
      by_cases hr0:r=0
      · subst hr0
        go_wp2
        go_round
        case rel=>exact⟨k+1,by omega,by go_num,by rw[A0.o,A1.o,A3.o];rfl⟩
        case measure=>simp[intOf];omega
      have q6:¬(r:Int)=0:=zo;go_wp2
      go_round
      case rel=>exact⟨k+1,by omega,by go_num,by rw[A0.o,A1.o,A3.o];simp[hr0]⟩
      case measure=>simp[intOf];omega
    obtain rfl:n=k:=zo;have et:out.take n=out:=tB5 (by rw[←HN.o];exact tA4 _);rw[et];have q2:¬(n:Int)<n:=zo;obtain⟨bb,hbb⟩:=xeq (qxe out p);have hg:=HG.o;rw[hbb]at hg ⊢;have A4:=zh1 hg;clear et hbb hg HG;cases bb with
    |false=>
     have A2:=zh1 (show qxf 64 f' (p+1) out=qxg from A4.o);go_wp2
     go_roundw
     case rel=>exact⟨out,p+1,f',by omega,by omega,by go_num,hlo,A2,hq2,hown,hbe⟩
     case measure=>simp[intOf];omega
    |true=>
     have A2:=zh1 (show qxf 64 f' (p+1) (out++[p])=qxg from A4.o);have hszb:=hbe.size;go_wp2_with (at_builtin;refine qy7 rfl (.tmp 30) (.tmp 32) rfl w.heap.size _ out rfl (hown.alloc _) _ 1 1 [p] rfl (qy8 wr p) (by have:=HN.o;omega) (by rw[qar];omega) ?_)
     intro v2 w2 own2 b2 g2;obtain⟨OW,BW⟩:=zh2 own2 ((hbe.alloc hbe.size (.cells #[.int .u64 (p:Int)] 32)).trans b2);have A5:Hid (∀q∈out++[p],2≤q∧q≤402):=by
      intro q hq;rcases List.mem_append.1 hq with hq|hq
      · exact hq2.o q hq
      obtain rfl:=List.mem_singleton.1 hq;omega
     have hl2:(out++[p]).length≤64:=by rw[tA6,←HN.o];simp;omega
     clear own2 b2 g2 hbe hown;go_wp2
     go_roundw
     case rel=>exact⟨out++[p],p+1,f',by omega,by omega,by go_num,hl2,A2,A5,OW,BW⟩
     case measure=>simp[intOf];omega
  have hle:64≤out.length:=by rw[←HN.o];omega
  have he:=hgo.o;rw[qxi 64 f p out hle]at he;have HE:=zh1 he;have q1:¬(n:Int)<64:=zo;clear he hn hrd hgo;go_wp2
  go_ret
  exact⟨_,rfl,by rw[←HE.o];exact hown.o,hbe.o⟩
def qyb:List Nat:=Kt++qc1.list
def qyc (j:Nat):List Nat:=qyb.take j++List.replicate (72 - j) 0
theorem qyd:qyb.length=72:=by decide
theorem qye:u32s qyb:=by
 intro x hx;have h:(qyb.all fun x=>decide (x<4294967296))=true:=by decide+kernel
 simpa using List.all_eq_true.1 h x hx
theorem qyf:qyc 72=qyb:=by
 unfold qyc;rw[tB5 (by rw[qyd];exact tA4 _)];simp
theorem qyg(j x:Nat)(h:qyb[j]? =some x):(qyc j).set j x=qyc (j+1):=by
 have hj:j<72:=by have:=(tA8 h).1;rwa[qyd]at this
 have lt:(qyb.take j).length=j:=by rw[tBd,qyd];omega
 unfold qyc;rw[List.set_append_right _ _ (by rw[lt];exact tA4 _),lt,Nat.sub_self,show 72 - j=(72 - (j+1))+1 by omega,List.replicate_succ,List.set_cons_zero,List.take_add_one,h];simp
theorem qyh(j:Nat)(h:j<72):(qyc j)[j]? =some 0:=by
 have lt:(qyb.take j).length=j:=by rw[tBd,qyd];omega
 unfold qyc;rw[tBn (by rw[lt];exact tA4 _),lt,Nat.sub_self,List.getElem?_replicate,if_pos zo]
theorem qyi{l:List Nat}{x:Nat}(h:l[i]? =some x):(qbp l)[i]? =some (.int .u32 (x:Int)):=by simp[qbp,h]
theorem qyj(l:List Nat)(i x:Nat):(qbp l).toArray.setIfInBounds i (.int .u32 (x:Int))=(qbp (l.set i x)).toArray:=by simp[qbp,List.map_set]
theorem qyk:((List.range 64).all fun k=>qxl (qxg.getD k 0) (qxk (qxg.getD k 0) 3 7*4294967296+qyb.getD k 0) true)=true:=by decide+kernel
theorem qyl:((List.range 8).all fun k=>qxl (qxg.getD k 0) (qxk (qxg.getD k 0) 2 7*4294967296+qyb.getD (64+k) 0) false)=true:=by decide+kernel
theorem qym(k r:Nat)(hk:k<64)(h:IsRoot r (qxg.getD k 0) true):qyb[k]? =some (r % 4294967296):=by
 have h1:=qxm (List.all_eq_true.1 qyk k (List.mem_range.2 hk));rw[h.eq h1];have hl:k<qyb.length:=by rw[qyd];omega
 have hb:=qye.getD k;rw[Nat.mul_add_mod',Nat.mod_eq_of_lt hb,tB4,tA7 hl];rfl
theorem qyn(k r:Nat)(hk:k<8)(h:IsRoot r (qxg.getD k 0) false):qyb[64+k]? =some (r % 4294967296):=by
 have h1:=qxm (List.all_eq_true.1 qyl k (List.mem_range.2 hk));rw[h.eq h1];have hl:64+k<qyb.length:=by rw[qyd];omega
 have hb:=qye.getD (64+k);rw[Nat.mul_add_mod',Nat.mod_eq_of_lt hb,tB4,tA7 hl];rfl
theorem qyo(k:Nat):qxg.getD k 0<1000:=by
 rw[tB4];rcases hx:qxg[k]? with _|x
 · simp
 have h:(qxg.all fun x=>decide (x<1000))=true:=by decide
 simpa using List.all_eq_true.1 h x (tB2 hx)
def RTab (w:World)(g:Nat):Prop:=Blk w g 211 (qbp qyb).toArray
theorem qyp(h:w.grownBy w' (some g))(hB:B≤g)(hg:g<w.heap.size):Below B w w':=
 ⟨h.os,h.tape,h.output,h.size,fun k hk=>h.block k zo (fun e=>by injection e;omega)⟩
theorem qyq(w:World):
 Zc 48 #[] w fun e w'=>e=.returned (.pointer (some ⟨w.heap.size,0,none⟩))∧RTab w' w.heap.size∧Below w.heap.size w w':=by
 have z0:Blk (w.alloc (.cells Tryz.zeroCells211 211)) w.heap.size 211 (qbp (qyc 0)).toArray:=by
  have h:=Blk.new w 211 Tryz.zeroCells211;rw[show Tryz.zeroCells211=(qbp (qyc 0)).toArray by kernel_rfl]at h ⊢;exact h
 have b0:Below w.heap.size w (w.alloc (.cells Tryz.zeroCells211 211)):=(tA5 _ _).alloc (tA4 _) _;obtain⟨W0,hW0⟩:=eqx (w.alloc (.cells Tryz.zeroCells211 211));rw[←hW0]at z0 b0;obtain⟨A1,Z0,B0⟩:=zh3 hW0 z0 b0;obtain⟨g,hg⟩:=xeq w.heap.size;have HG:=zh1 hg;clear hW0 z0 b0 hg;go_enter Tryz.func48,Tryz.ntmps48
 go_wp2_with fail
 rw[←A1.o];refine(qya W0).mono ?_;rintro e w1 ⟨v,rfl,own1,b1⟩;obtain⟨A,n,c,rfl,hn,hnc,hcm,hrd⟩:=own1.sl;obtain rfl:n=64:=hn.trans zdc;have z1:=Z0.below b1 Z0.lt;have b1':=B0.trans (b1.mono B0.size);have hne:=qa3 own1 z1 zdc;obtain⟨b,o,rfl,hab,hcell⟩:=hrd.mid zo zo;have hbg:b≠w.heap.size:=fun e=>hne (by simp[Value.ownBlock,e])
 have hgw:w.heap.size<w1.heap.size:=z1.lt;(try simp only[Zb]at b1' hbg);rw[HG.o]at z1 b1' hbg hgw ⊢
 obtain⟨HC,Z1,B1⟩:=zh3 hcell z1 b1';clear own1 b1 hrd hcell hn A1 Z0 B0 z1 b1' hne;go_wp2_with fail
 go_loopw [3] (fun i wr=>∃k:Nat,k≤64∧i=.int .i64 k∧Hid (Blk wr g 211 (qbp (qyc k)).toArray)∧Hid (w1.grownBy wr (some g))) (fun i _=>64 - (intOf i).toNat)
 case atStart=>exact⟨0,by omega,rfl,Z1.o,tB9 _ _⟩
 case round=>
  obtain⟨k,hk,rfl,hz,hgr⟩:=hrel;by_cases hlt:k<64
  ·
   obtain⟨p,hp⟩:∃p,qxg[k]? =some p:=⟨_,tA7 (by rw[show qxg.length=64 from by decide];exact hlt)⟩;have hpd:qxg.getD k 0=p:=by rw[tB4,hp];rfl
   have ck:wr.cell? ⟨b,o+k,none⟩=some (.int .u64 (p:Int)):=hgr.cell (HC.o k _ (qxo hp)) (by simp;omega);have hp1:p<1000:=by rw[←hpd];exact qyo k
   have hroot:=qym k;rw[hpd]at hroot;have A0:=zh1 hroot;have q1:(k:Int)<64:=zo;have hbw:b<wr.heap.size:=World.block_lt_of_cell? _ _ ck;clear hp hpd hroot;go_upto_region 6 with(fail)
   obtain⟨S,HS⟩:=zS fun w'=>w'.cell? ⟨b,o+k,none⟩=some (.int .u64 (p:Int))
   refine zrs S 10 (zq 0 6 [(7,false),(8,false),(6,true),(9,false),(10,true)]) ((HS.o _).mpr ck) ?_;repeat(refine zrt0 ?_)
   refine zw ?_;go_simp;refine(qy5 p true wr.drew hp1).mono ?_;rintro e w2 ⟨⟨r,hr,rfl⟩,b2⟩;have hrk:=A0.o r hlt hr;have z2:=(show Blk wr.drew g 211 (qbp (qyc k)).toArray from hz.o).below b2 hz.lt;obtain⟨rr,hrr⟩:=xeq (r % 4294967296);rw[hrr]at hrk ⊢;have gr2:w1.grownBy w2 (some g):=qac (qa9 hgr.o) (qad b2 (some g)) (by rintro d ⟨rfl⟩;exact .inl rfl);refine⟨(HS.o _).mpr ((b2.cell (p:=⟨b,o+k,none⟩) hbw).trans ck),zput ?_⟩;repeat(refine zrt0 ?_)
   have zs:=z2.set_ k (.int .u32 (rr:Int));rw[qyj,qyg k rr hrk]at zs;obtain⟨ZS,GS⟩:=zh2 zs (qab (p:=⟨g,k,none⟩) gr2 (.inl rfl) (.int .u32 (rr:Int)));have zc:=(z2.cell k).trans (show _=some (.int .u32 0) by simpa using qyi (qyh k zo));have zf:=z2.frozen k;refine zw ?_;go_simp;refine qbf ?_;clear zc zf zs gr2 z2 b2 hgr hz hrk hrr hr hbw ck;go_wp2
   go_roundw
   case rel=>exact⟨k+1,by omega,by go_num,ZS,GS⟩
   case measure=>simp[intOf];omega
  obtain rfl:64=k:=zo;clear Z1;rw[show ((64:Nat):Int)=64 from rfl];go_wp2_with fail
  go_loopw [4] (fun i wr=>∃k:Nat,k≤8∧i=.int .i64 k∧Hid (Blk wr g 211 (qbp (qyc (64+k))).toArray)∧Hid (w1.grownBy wr (some g))) (fun i _=>8 - (intOf i).toNat)
  case atStart=>exact⟨0,by omega,rfl,hz.o,hgr.o⟩
  case round=>
   clear hz hgr;obtain⟨k,hk,rfl,hz,hgr⟩:=hrel;by_cases hlt:k<8
   ·
    obtain⟨p,hp⟩:∃p,qxg[k]? =some p:=⟨_,tA7 (by rw[show qxg.length=64 from by decide];omega)⟩;have hpd:qxg.getD k 0=p:=by rw[tB4,hp];rfl
    have ck:wr.cell? ⟨b,o+k,none⟩=some (.int .u64 (p:Int)):=hgr.cell (HC.o k _ (qxo hp)) (by simp;omega);have hp1:p<1000:=by rw[←hpd];exact qyo k
    have hroot:=qyn k;rw[hpd]at hroot;have A0:=zh1 hroot;have q1:(k:Int)<8:=zo;have q2:(k:Int)<64:=zo;have hbw:b<wr.heap.size:=World.block_lt_of_cell? _ _ ck;clear hp hpd hroot;go_upto_region 10 with(fail)
    obtain⟨S,HS⟩:=zS fun w'=>w'.cell? ⟨b,o+k,none⟩=some (.int .u64 (p:Int))
    refine zrs S 10 (zq 0 6 [(7,false),(8,false),(6,true),(9,false),(10,true)]) ((HS.o _).mpr ck) ?_;repeat(refine zrt0 ?_)
    refine zw ?_;go_simp;refine(qy5 p false wr.drew hp1).mono ?_;rintro e w2 ⟨⟨r,hr,rfl⟩,b2⟩;have hrk:=A0.o r hlt hr;have z2:=(show Blk wr.drew g 211 (qbp (qyc (64+k))).toArray from hz.o).below b2 hz.lt;obtain⟨rr,hrr⟩:=xeq (r % 4294967296);rw[hrr]at hrk ⊢;have gr2:w1.grownBy w2 (some g):=qac (qa9 hgr.o) (qad b2 (some g)) (by rintro d ⟨rfl⟩;exact .inl rfl);refine⟨(HS.o _).mpr ((b2.cell (p:=⟨b,o+k,none⟩) hbw).trans ck),zput ?_⟩;repeat(refine zrt0 ?_)
    have zs:=z2.set_ (64+k) (.int .u32 (rr:Int));rw[qyj,qyg (64+k) rr hrk]at zs;obtain⟨ZS,GS⟩:=zh2 zs (qab (p:=⟨g,64+k,none⟩) gr2 (.inl rfl) (.int .u32 (rr:Int)));have zc:=(z2.cell (64+k)).trans (show _=some (.int .u32 0) by simpa using qyi (qyh (64+k) zo));have zf:=z2.frozen (64+k);refine zw ?_;go_simp;refine qbf ?_;clear zc zf zs gr2 z2 b2 hgr hz hrk hrr hr hbw ck;go_wp2
    go_roundw
    case rel=>exact⟨k+1,by omega,by go_num,ZS,GS⟩
    case measure=>simp[intOf];omega
   obtain rfl:8=k:=zo;have hz':=hz.o;rw[show 64+8=72 from rfl,qyf]at hz';obtain⟨HZ,HB⟩:=zh2 hz' (B1.trans (qyp hgr.o (tA4 _) hgw));clear hz' hz hgr;go_wp2
   go_ret
   exact⟨by rw[HG.o];rfl,by rw[HG.o];exact HZ.o,by rw[HG.o];exact HB.o⟩
theorem qyr(x a:Nat)(w:World)(h:x<4294967296)(a1:1≤a)(a2:a≤31):
 Zc 228 #[.int .u32 x,.int .u64 a] w fun e w'=>e=.returned (.int .u32 (rotr x a))∧w=w':=by
 obtain⟨s,hs⟩:=xeq (32 - a);have hb:IntKind.u64.wrap (32 - (a:Int))=(s:Int):=by rw[show (32 - (a:Int))=(s:Int) by omega];exact tBa _ zo
 have hs2:s≤31:=zo;have hs3:1≤s:=zo;have hm:min s 32=s:=Nat.min_eq_left zo;have ha:min a 32=a:=Nat.min_eq_left zo;have HS:=zh1 hs;clear hs;go_enter Tryz.func228,Tryz.ntmps228
 go_wp2
 go_ret
 refine⟨?_,rfl⟩;have HS':32 - a=s:=HS;have e1:((x:Int)*2^s % 4294967296)=((x*2^s % 4294967296:Nat):Int):=by
  rw[Int.natCast_emod,Int.natCast_mul,Int.natCast_pow];rfl
 have e3:((x:Int) / 2^a)=((x / 2^a:Nat):Int):=by push_cast;rfl
 first
  |rw[e1,e3,u32_or_nat]
  |rw[hm,ha,e1,e3,u32_or_nat]
 · unfold rotr;rw[HS'];rfl
 · exact Nat.lt_of_le_of_lt (Nat.div_le_self _ _) h
 exact Nat.mod_lt _ zdc
theorem qys(h:RTab w g)(hk:k<64):w.cell? ⟨g,k,none⟩=some (.int .u32 (Kt.getD k 0:Nat)):=by
 rw[Blk.cell h,qc2 (by rw[qyd];omega)];unfold qyb;rw[tB4,tBm (by rw[show Kt.length=64 from by decide];omega),←tB4]
theorem qyt(h:RTab w g)(hi:i<8):w.cell? ⟨g,64+i,none⟩=qc1.vals[i]? :=by
 rw[Blk.cell h,qc2 (by rw[qyd];omega),St.vals_list,qc2 (by simpa [St.list] using hi)];unfold qyb;have l:Kt.length=64:=by decide
 rw[tB4,tBn (by rw[l];omega),l,show 64+i - 64=i by omega,←tB4]
end Go.Proofs.YthomgopipiomhaaGreatDoor
