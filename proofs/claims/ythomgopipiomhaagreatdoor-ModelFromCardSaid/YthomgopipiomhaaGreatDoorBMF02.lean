/- Lemmas. -/
import Derived.Test.YthomgopipiomhaaGreatDoorBMF01
import Derived.Stop.Asserts
import Derived.Lib.IfaceEq
namespace Go.Proofs.YthomgopipiomhaaGreatDoor
open Go.RowKit
set_option linter.unusedVariables false
set_option linter.unusedSimpArgs false
set_option maxRecDepth 100000
set_option maxHeartbeats 32000000
variable {Q:Exit→Act→World→Prop}{K:Act→World→Prop}{w w' w1 w2:World}{a:Act}{o:Oper}{P:Program}{rest:List Oper}{i g p k n m B base:Nat}{bs:List Nat}{v:Value}{t1 t2 ty:TypeId}{xs:List Value}{R:Req}
theorem qex(hgd:o.guard=none)(d s:Operand)(dT sT:TypeId)
 (ho:o.op=.call {callee:=.builtin .copy,args:=#[d,s],argTypes:=#[dT,sT]})(elem:TypeId)(hu:P.underlying dT=some (.slice elem))(hsz:(P.info? elem).map (·.size)=some 1)
 (dp sp:Option Addr)(dLen dCap sLen sCap:Nat)(hd:a.eval d=.slice dp dLen dCap)(hs:a.eval s=.slice sp sLen sCap)
 (g off:Nat)(cur:List Value)(t:TypeId)(hg:w.heap[g]? =some (.cells cur.toArray t (0,0)))(cs:List Value)(hn:cs.length=Nat.min sLen dLen)
 (hpos:0<cs.length→dp=some ⟨g,off,none⟩∧∃ad,sp=some ad∧∀j v,cs[j]? =some v→w.cell? (ad.add j)=some v)
 (hfit:off+cs.length≤cur.length)(h1:∀v∈cs,v.oneCell'=true)(B:Nat)(w0:World)(hb:RowKit.Below B w0 w)(hBg:B≤g)
 (h:∀w',RowKit.Hid (w'.heap[g]? =some (.cells (splice cur off cs).toArray t (0,0)))→RowKit.Below B w0 w'→K (a.put o.dst (goInt cs.length)) w'):o.wp P a w K Q:=by
 have:=step_copy_splice (P:=P) (ops:=#[]) (o:=o) (a:=a) (w:=w) (K:=K) (Q:=Q) (E:=True) hgd d s dT sT ho elem hu hsz dp sp dLen dCap sLen sCap hd hs g off cur t hg cs hn hpos hfit h1 B w0 hb hBg h;rwa[if_pos (by simp[Region.wanted,hgd])]at this
theorem qey(rest:List Nat)(N:Nat):splice (byv (List.replicate N 0)) 0 (byv rest)=byv (rest++List.replicate (N - rest.length) 0):=by
 simp[splice,byv]
theorem qez{ops:Array Oper}(hgd:o.guard=none)(d s:Operand)(dT sT:TypeId)
 (ho:o.op=.call {callee:=.builtin .copy,args:=#[d,s],argTypes:=#[dT,sT]})(elem:TypeId)(hu:P.underlying dT=some (.slice elem))(hsz:(P.info? elem).map (·.size)=some 1)
 (dp sp:Option Addr)(dLen dCap sLen sCap:Nat)(hd:a.eval d=.slice dp dLen dCap)(hs:a.eval s=.slice sp sLen sCap)
 (g off:Nat)(cur:List Value)(t:TypeId)(hg:w.heap[g]? =some (.cells cur.toArray t (0,0)))(cs:List Value)(hn:cs.length=Nat.min sLen dLen)
 (hpos:0<cs.length→dp=some ⟨g,off,none⟩∧∃ad,sp=some ad∧∀j v,cs[j]? =some v→w.cell? (ad.add j)=some v)
 (hfit:off+cs.length≤cur.length)(h1:∀v∈cs,v.oneCell'=true)
 (h:∀w',Hid (w'.heap[g]? =some (.cells (splice cur off cs).toArray t (0,0)))→w.grownBy w' (some g)→wpList P ops Q rest (a.put o.dst (goInt cs.length)) w'):
 wpList P ops Q (o::rest) a w:=by
 by_cases h0:cs.length=0
 · obtain rfl:cs=[]:=tB8 h0
   refine wpList_copy_nothing hgd d s dT sT ho elem hu hsz dp sp dLen dCap sLen sCap hd hs (by simpa using hn.symm) ?_;exact h w (show _=_ by simpa [splice] using hg) (tB9 _ _)
 obtain⟨rfl,ad,rfl,hsrc⟩:=hpos zo;refine wpList_copy_own hgd d s dT sT ho elem hu hsz g off dLen dCap ad sLen sCap hd hs cur.toArray t hg cs hn hsrc (by simpa using hfit) h1 ?_;exact h _ (show _=_ by simpa [splice] using setRow_heap w g _ _ t _ hg) (qam _ _ _)
theorem qf0(d s:Operand)(dT sT:TypeId)
 (ho:o.op=.call {callee:=.builtin .copy,args:=#[d,s],argTypes:=#[dT,sT]})(elem:TypeId)(hu:P.underlying dT=some (.slice elem))(hsz:(P.info? elem).map (·.size)=some 1)
 (dp sp:Option Addr)(dLen dCap sLen sCap:Nat)(hd:a.eval d=.slice dp dLen dCap)(hs:a.eval s=.slice sp sLen sCap)
 (g off:Nat)(cur:List Value)(t:TypeId)(hg:w.heap[g]? =some (.cells cur.toArray t (0,0)))(cs:List Value)(hn:cs.length=Nat.min sLen dLen)
 (hpos:0<cs.length→dp=some ⟨g,off,none⟩∧∃ad,sp=some ad∧∀j v,cs[j]? =some v→w.cell? (ad.add j)=some v)
 (hfit:off+cs.length≤cur.length)(h1:∀v∈cs,v.oneCell'=true)
 (h:∀w',Hid (w'.heap[g]? =some (.cells (splice cur off cs).toArray t (0,0)))→w.grownBy w' (some g)→K (a.put o.dst (goInt cs.length)) w'):o.wp P a w K Q:=by
 by_cases h0:cs.length=0
 · obtain rfl:cs=[]:=tB8 h0
   have hrun:=run_copy_none (P:=P) w dT sT o.type elem dp sp dLen dCap sLen sCap hu hsz (by simpa using hn.symm);unfold Oper.wp;simp[execOp,ho,resolve,invoke,builtin,hd,hs,hrun,Result.andThen];exact h w (show _=_ by simpa [splice] using hg) (tB9 _ _)
 obtain⟨rfl,ad,rfl,hsrc⟩:=hpos zo;have hrun:=run_copy_row (P:=P) w dT sT o.type elem g off dLen dCap ad sLen sCap cur.toArray t cs hu hsz hg hn hsrc (by simpa using hfit) h1;unfold Oper.wp;simp[execOp,ho,resolve,invoke,builtin,hd,hs,hrun,Result.andThen];exact h _ (show _=_ by simpa [splice] using setRow_heap w g _ _ t _ hg) (qam _ _ _)
theorem qf1(P Q:List Nat)(x v:Nat):(byv (P++x::Q)).toArray.setIfInBounds P.length (.int .u8 (v:Int))=(byv (P++v::Q)).toArray:=by
 simp[byv]
theorem qf3{P Q:List Nat}{x:Nat}(h:P.length=i):(byv (P++x::Q)).toArray[i]? =some (.int .u8 (x:Int)):=by
 subst h;simp[byv]
def blocks (bs:List Nat)(s:St):Nat→St
 |0=>s
 |k+1=>mixed (bs.drop (64*k)) (blocks bs s k)
theorem qf4(bs:List Nat)(s:St)(h:s.ok):∀k,(blocks bs s k).ok
 |0=>h
 |k+1=>qca _ _
theorem qf5:qc1.ok:=by unfold St.ok qc1;decide
def qf6 (r:Nat):Nat:=if r+9>64 then 128 else 64
def qf7 (bs:List Nat)(k:Nat):List Nat:=
 let r:=bs.length % 64
 (bs.drop (bs.length - r)++128::List.replicate (qf6 r - r - 1 - k) 0)++(be (8*bs.length) k++List.replicate (128 - qf6 r) 0)
def qf8 (bs:List Nat):St:=blocks (qf7 bs 8) (blocks bs qc1 (bs.length / 64)) (qf6 (bs.length % 64) / 64)
def qf9 (s:St):List Nat:=(List.range 32).map fun i=>s.list.getD (i / 4) 0 / 2^(24 - 8*(i % 4)) % 256
def sha (bs:List Nat):List Nat:=qf9 (qf8 bs)
theorem qfa{l:List Nat}(h:i<l.length):(byv l).toArray[i]? =some (.int .u8 (l.getD i 0:Nat)):=by
 simp only[byv,tA3,tBj];rw[tB4,tA7 h];rfl
theorem qfb{t:TypeId}{l:List Nat}(h:Blk w g t (byv l).toArray)(hp:p≤l.length):Reads w w.heap.size 1 (some ⟨g,p,none⟩) (l.length - p) (byv (l.drop p)):=by
 refine⟨by simp[byv],fun _=>⟨_,rfl,h.lt,fun j u hu=>?_⟩⟩;have e:(⟨g,p,none⟩:Addr).add j=⟨g,p+j,none⟩:=by unfold Addr.add;split<;>simp_all
 rw[e,h.cell,←hu];simp[byv]
def qfc (L:List Nat)(k:Nat):List Nat:=L.take k++List.replicate (L.length - k) 0
theorem qfd{L:List Nat}{v:Nat}(h:k<L.length)(hv:L.getD k 0=v):(byv (qfc L k)).toArray.setIfInBounds k (.int .u8 (v:Int))=(byv (qfc L (k+1))).toArray:=by
 unfold qfc;rw[show L.length - k=(L.length - (k+1))+1 by omega,List.replicate_succ];have e:=qf1 (L.take k) (List.replicate (L.length - (k+1)) 0) 0 v;rw[tBd,Nat.min_eq_left zo]at e;rw[e,List.take_add_one,tA7 h];rw[tB4,tA7 h]at hv;simp only[Option.getD_some]at hv;simp[hv]
theorem qfe(L:List Nat):qfc L L.length=L:=by simp[qfc]
theorem qff(st:St)(h:k<32):(qf9 st).getD k 0=st.list.getD (k / 4) 0 / 2^(24 - 8*(k % 4)) % 256:=by
 unfold qf9;rw[tB4,tBj,List.getElem?_range h];rfl
theorem qfg(r:Nat)(h:r<64):r+9≤qf6 r∧(qf6 r=64∨qf6 r=128):=by unfold qf6;split<;>omega
theorem qfh(N k:Nat):be N (k+1)=qav N k::be N k:=by
 unfold be;rw[List.range_succ_eq_map,List.map_cons,List.map_map];congr 1
 apply List.map_congr_left;intro j hj;have:=List.mem_range.1 hj;show qav N (k+1 - 1 - (j+1))=qav N (k - 1 - j);congr 1
 omega
theorem qfi(bs:List Nat)(k:Nat)(hk:k<8):(byv (qf7 bs k)).toArray.setIfInBounds (qf6 (bs.length % 64) - 1 - k) (.int .u8 (qav (8*bs.length) k:Nat))=(byv (qf7 bs (k+1))).toArray:=by
 have hr:bs.length % 64<64:=Nat.mod_lt _ zdc;obtain⟨e1,e2⟩:=qfg _ hr;unfold qf7;dsimp only;have e:qf6 (bs.length % 64) - bs.length % 64 - 1 - k=(qf6 (bs.length % 64) - bs.length % 64 - 1 - (k+1))+1:=zo;rw[qfh,e,List.replicate_succ'];have h:=qf1 (bs.drop (bs.length - bs.length % 64)++128::List.replicate (qf6 (bs.length % 64) - bs.length % 64 - 1 - (k+1)) 0) (be (8*bs.length) k++List.replicate (128 - qf6 (bs.length % 64)) 0) 0 (qav (8*bs.length) k);have hl:(bs.drop (bs.length - bs.length % 64)++128::List.replicate (qf6 (bs.length % 64) - bs.length % 64 - 1 - (k+1)) 0).length=qf6 (bs.length % 64) - 1 - k:=by simp;omega
 rw[hl]at h;simpa using h
theorem qfj(bs:List Nat):qf7 bs 0=bs.drop (bs.length - bs.length % 64)++128::List.replicate (127 - bs.length % 64) 0:=by
 have hr:bs.length % 64<64:=Nat.mod_lt _ zdc;obtain⟨e1,e2⟩:=qfg _ hr;unfold qf7;have:be (8*bs.length) 0=[]:=rfl;simp only[this,List.nil_append,List.append_assoc,List.cons_append,List.replicate_append_replicate];congr 3
 omega
theorem qfk(bs:List Nat)(k:Nat)(hk:k≤8):(qf7 bs k).length=128:=by
 have hr:bs.length % 64<64:=Nat.mod_lt _ zdc;obtain⟨e1,e2⟩:=qfg _ hr;simp[qf7,qaw];omega
theorem qfl(bs:List Nat)(h:∀b∈bs,b<256)(k:Nat):∀b∈qf7 bs k,b<256:=by
 intro b hb;simp only[qf7,tBg,List.mem_cons,List.mem_replicate]at hb;rcases hb with(hb|rfl|⟨_,rfl⟩)|hb|⟨_,rfl⟩
 · exact h b (List.mem_of_mem_drop hb)
 · decide
 · decide
 · exact qaz _ _ b hb
 decide
theorem qfm(h:Tabs w)(hg:w.grownBy w' (some g))(h3:3≤g):Tabs w':=
 ⟨tB1 h.size hg.size,fun i hi=>(World.cell?_of_block (hg.block _ (by have:=h.size;show (1:Nat)<_;omega) (fun e=>by injection e with e;have e:(1:Nat)=g:=e;omega))).trans (h.start i hi),
  fun i hi=>(World.cell?_of_block (hg.block _ (by have:=h.size;show (2:Nat)<_;omega) (fun e=>by injection e with e;have e:(2:Nat)=g:=e;omega))).trans (h.words i hi)⟩
theorem qfn(n cc:Nat)(A:Option Addr)(bs:List Nat)(w:World)(hb2:∀b∈bs,b<256)(hr:Reads w w.heap.size 1 A n (byv bs))(hnc:n≤cc)(hn:n≤1152921504606846975)(ht:Tabs w):
 Zc 245 #[.slice A n cc] w fun e w'=>e=.returned (.agg (byv (sha bs)).toArray)∧Zb w w':=by
 have hlen:bs.length=n:=qb4 hr;obtain⟨m,hm⟩:=xeq (n / 64);have d1:Int.tdiv (n:Int) 64=(m:Int):=by rw[←hm,Int.tdiv_eq_ediv_of_nonneg zo];omega
 have d2:IntKind.i64.wrap (m:Int)=m:=tBb _ zo;obtain⟨p4,hp4⟩:=xeq (64*m);have d3:IntKind.i64.wrap ((m:Int)*64)=(p4:Int):=by rw[show ((m:Int)*64)=(p4:Int) by omega];exact tBb _ zo
 have A1:=zh1 hp4;have g0:∀i,i<8→w.cell? ⟨1,i,none⟩=qc1.vals[i]? :=ht.start;have c0:=g0 0 zo;have c1:=g0 1 zo;have c2:=g0 2 zo;have c3:=g0 3 zo;have c4:=g0 4 zo;have c5:=g0 5 zo;have c6:=g0 6 zo;have c7:=g0 7 zo;simp[St.vals,qc1]at c0 c1 c2 c3 c4 c5 c6 c7;have hlt2:1<w.heap.size:=by have:=ht.size;omega
 clear g0;obtain⟨Ht,Hr,HM,A0⟩:=zh4 ht hr hm hlen;have hW:∃x,x=(w.alloc (.cells zLD 29)).alloc (.cells #[.int .u32 1779033703,.int .u32 3144134277,.int .u32 1013904242,.int .u32 2773480762,.int .u32 1359893119,.int .u32 2600822924,.int .u32 528734635,.int .u32 1541459225] 209):=⟨_,rfl⟩;obtain⟨W1,hW1⟩:=hW;have Z1:Blk W1 w.heap.size 29 zLD:=by rw[hW1];exact(Blk.new w _ _).alloc _
 have S1:Blk W1 (w.heap.size+1) 209 qc1.vals:=by
  have h:=Blk.new (w.alloc (.cells zLD 29)) 209 qc1.vals;rw[qar]at h;rw[hW1];exact h
 have B1:Zb w W1:=by rw[hW1];exact qah (qah (tA5 _ _) _) _
 have L1:w.heap.size+1<W1.heap.size:=S1.lt;have A6:=zh1 hb2;clear ht hr hm hlen hp4 hb2;go_enter Tryz.func245,Tryz.ntmps245
 go_wp2_with fail
 rw[←hW1];obtain⟨AP,A8,A9,A3⟩:=zh4 hW1 Z1 S1 B1;clear hW1 Z1 S1 B1 c0 c1 c2 c3 c4 c5 c6 c7;go_loopw [5] (fun i wr=>∃k p:Nat,k≤m∧Hid (64*k=p)∧i=.int .i64 p∧Blk wr (w.heap.size+1) 209 (blocks bs qc1 k).vals∧W1.grownBy wr (some (w.heap.size+1))) (fun i _=>p4 - (intOf i).toNat)
 case atStart=>exact⟨0,0,by omega,rfl,rfl,A9.o,tB9 _ _⟩
 case round=>
  obtain⟨k,p,hk,hp,rfl,hst,hgr⟩:=hrel;by_cases hkm:k<m
  ·
   have ep:=hp.o;have e4:=A1.o;have em:=HM.o;have q1:(p:Int)<p4:=zo;have q2:p≤n:=zo;have q3:p<cc:=zo;have q4:cc≠p:=zo;have hr1:=((Hr.below A3.o).grown hgr zo (by intro g hg;injection hg with hg;omega)).cut (k:=p) (cap:=cc) q2 hnc;rw[if_neg zo,Nat.mul_one,show (byv bs).drop p=byv (bs.drop p) by simp[byv]]at hr1;have hT:=(Ht.below A3.o Ht.size);have hT1:=qfm hT hgr (by have:=Ht.size;omega);have hl1:(bs.drop p).length=n - p:=by rw[tBk,A0.o]
   have hst2:=hst;rw[St.vals]at hst2;have K:=qcj (w.heap.size+1) w.heap.size (n - p) (cc - p) _ (bs.drop p) _ wr (qf4 bs qc1 qf5 k) hl1 zo (fun b hb=>A6.o b (List.mem_of_mem_drop hb)) hst2 hr1 (by have:=hgr.size;omega) hT1;obtain⟨HK,Hgr⟩:=zh2 K hgr;clear ep e4 em hgr K hT hT1 hst hst2 hr1 hl1;go_wp2_with fail
   with_reducible refine HK.o.mono ?_
   rintro e w2 ⟨rfl,h1,h2⟩;have w1:IntKind.i64.wrap ((p:Int)+64)=(p+64:Nat):=by rw[show ((p:Int)+64)=((p+64:Nat):Int) by omega];exact tBb _ (by have:=hp.o;have:=A1.o;have:=HM.o;omega)
   go_wp2
   go_roundw
   case rel=>exact⟨k+1,p+64,by omega,(show 64*(k+1)=p+64 by have:=hp.o;omega),by go_num,by rw[blocks,hp.o];exact h1,qc7 Hgr.o h2⟩
   case measure=>simp[intOf];have:=hp.o;omega
  have hk':k=m:=zo;have q1:¬(p:Int)<p4:=by have:=hp.o;have:=A1.o;omega
  rw[hk']at hst;obtain⟨Hst,Hgr⟩:=zh2 hst hgr;clear hst hgr hk' hkm hk;obtain⟨W2,rfl⟩:=eqx wr;obtain⟨r,hrr⟩:=xeq (n - p4);have hr64:n % 64=r:=by have:=A1.o;have:=HM.o;omega
  have r64:r<64:=zo;have e4n:p4≤n:=by have:=A1.o;have:=HM.o;omega
  have HX:Reads W2 w.heap.size 1 (if cc=p4 then A else A.map (·.add p4)) r (byv (bs.drop p4)):=by
   have h:=((Hr.below A3.o).grown Hgr.o zo (by intro g hg;injection hg with hg;omega)).cut (k:=p4) (cap:=cc) e4n hnc;rw[hrr,Nat.mul_one,show (byv bs).drop p4=byv (bs.drop p4) by simp[byv]]at h;exact h
  have HX':=zh1 HX;obtain⟨rest,hrest⟩:=xeq (bs.drop p4);have lrest:rest.length=r:=by rw[←hrest,tBk,A0.o];exact hrr
  have W3a:Blk (W2.alloc (.cells Tryz.zeroCells360 360)) W2.heap.size 360 (byv (List.replicate 128 0)).toArray:=Blk.new W2 _ _;rw[hrest]at HX;obtain⟨A2,hA2⟩:∃x,(if cc=p4 then A else A.map (·.add p4))=x:=⟨_,rfl⟩;rw[hA2]at HX;have AA:=zh1 hA2;clear hA2;obtain⟨HXr,Hrest,Hlrest,HW3a,Hrr⟩:=zh5 HX hrest lrest W3a hrr;have L2:w.heap.size+1<W2.heap.size:=tB0 L1 Hgr.size;have A5:=zh1 L2;clear HX HX' hrest lrest W3a;go_wp2_with fail
  obtain⟨S,HS⟩:∃S:World→Prop,Hid (∀w',S w'):=⟨fun _=>True,fun _=>trivial⟩;refine zrs S 6 (zq 0 4 [(4,true),(5,false)]) (HS.o _) ?_;iterate 3 (refine zrb ?_)
  refine qbg rfl rfl ⟨.slice A2 r (cc - p4),fun w1 hS=>?_,?_⟩
  · rw[←AA.o]
    by_cases hcp:cc=p4
    · subst hcp
      go_simp
    go_simp
  refine zP ?_;refine zw ?_;refine qex rfl (.tmp 27) (.tmp 30) 23 23 rfl 5 zk zk _ _ _ _ _ _ rfl rfl W2.heap.size 0 (byv (List.replicate 128 0)) 360 HW3a.o (byv rest) (by rw[qat,Hlrest.o];show r=min r 128;omega) (fun h0=>⟨rfl,?_⟩) (by rw[qat,qat,Hlrest.o,List.length_replicate];omega) (qau _) W2.heap.size W2 ((tA5 _ _).alloc (tA4 _) _).drew (tA4 _) ?_
  · obtain⟨ad,h1,h2,h3⟩:=HXr.o.2 (by rw[qat,Hlrest.o]at h0;exact h0)
    refine⟨ad,h1,fun j v hv=>?_⟩;rw[←h3 j v hv];exact World.cell?_alloc_lt W2 _ _ (by rw[qa1];omega)
  intro w3 HG3 hB3;refine⟨fun _=>HS.o w3,zput ?_⟩;rw[show (byv rest).length=r by rw[qat,Hlrest.o]];iterate 1 (refine zrb ?_)
  refine qbf ?_;have hT3:Blk w3 W2.heap.size 360 (byv (rest++List.replicate (128 - r) 0)).toArray:=by
   have h:=HG3.o;rw[qey,Hlrest.o]at h;exact h
  rw[show 128 - r=(127 - r)+1 by omega,List.replicate_succ]at hT3;have ct:=hT3.cell r;rw[qf3 (Hlrest.o)]at ct;have ft:=hT3.frozen r;have q128:(r:Int)<128:=zo;have A7:=zh1 hT3;clear hT3;go_upto_region 11 with(fail)
  obtain⟨W4,hW4⟩:=eqx (w3.setCell ⟨W2.heap.size,r,none⟩ (.int .u8 128));rw[←hW4];have hT4:Blk W4 W2.heap.size 360 (byv (qf7 bs 0)).toArray:=by
   have h:=A7.set_ r (.int .u8 (128:Nat));have e:=qf1 rest (List.replicate (127 - r) 0) 0 128;rw[Hlrest.o]at e;rw[e]at h;rw[hW4,qfj,A0.o,hr64,show n - r=p4 by have:=Hrr.o;omega,Hrest.o];exact h
  have hB4:Zb W2 W4:=by rw[hW4];exact hB3.setCell (tA4 _) _
  obtain⟨AB,A4⟩:=zh2 hT4 hB4;clear hT4 hB4 hW4 ct ft A7 hB3 HG3;go_upto_if 36 with(fail)
  obtain⟨E,hE⟩:=xeq (qf6 r);have eb:=qfg r r64;rw[hE]at eb;obtain⟨eb1,eb2⟩:=eb;have HE:=zh1 hE;clear hE;go_cut [8] from 27 (fun s8 wx=>s8=.int .i64 (E:Nat)∧wx=W4)
  case first=>
   go_wp2
   all_goals
    go_meet
    case rel=>
     refine⟨?_,rfl⟩;rw[←HE.o];unfold qf6;first|rw[if_pos zo];rfl|rw[if_neg zo];rfl
  case rest=>
   obtain⟨rfl,rfl⟩:=hcut;go_wp2_with fail
   go_loopw [37] (fun i wr=>∃k:Nat,k≤8∧i=.int .i64 k∧Blk wr W2.heap.size 360 (byv (qf7 bs k)).toArray∧Below W2.heap.size wc wr) (fun i _=>8 - (intOf i).toNat)
   case atStart=>exact⟨0,by omega,rfl,AB.o,tA5 _ _⟩
   case round=>
    obtain⟨k,hk,rfl,htk,hbk⟩:=hrel;by_cases hk8:k<8
    ·
     have qk8:(k:Int)<8:=zo;obtain⟨j,hj⟩:=xeq (E - 1 - k);have v1:IntKind.i64.wrap ((E:Int) - 1)=(E:Int) - 1:=tBb _ zo;have v2:IntKind.i64.wrap ((E:Int) - 1 - k)=(j:Int):=by rw[show ((E:Int) - 1 - k)=(j:Int) by omega];exact tBb _ zo
     have v3:IntKind.u64.wrap (n:Int)=n:=tBa _ zo;have v4:IntKind.u64.wrap ((n:Int)*8)=((n*8:Nat):Int):=by rw[show ((n:Int)*8)=((n*8:Nat):Int) by omega];exact tBa _ zo
     have v5:IntKind.i64.wrap (8*(k:Int))=((8*k:Nat):Int):=by rw[show (8*(k:Int))=((8*k:Nat):Int) by omega];exact tBb _ zo
     have qj:(j:Int)<128:=zo;have ct:=htk.cell j;rw[qfa (by rw[qfk bs k zo];omega)]at ct;have ft:=htk.frozen j;obtain⟨Htk,Hbk,Hj⟩:=zh3 htk hbk hj;clear htk hbk hj;go_wp2
     go_roundw
     case rel=>
      refine⟨k+1,by omega,by go_num,?_,Hbk.setCell (tA4 _) _⟩;have e:((n:Int)*8 / 2^(8*k) % 256)=((qav (8*bs.length) k:Nat):Int):=by
       rw[A0.o];unfold qav;rw[show (256:Nat)^k=2^(8*k) by rw[Nat.pow_mul],Nat.mul_comm 8 n];push_cast
       rfl
      have e2:j=qf6 (bs.length % 64) - 1 - k:=by rw[A0.o,hr64,HE.o,Hj.o]
      rw[e,←qfi bs k hk8,←e2];exact Htk.set_ j _
     case measure=>simp[intOf];omega
    have qk8:¬(k:Int)<8:=zo;have hk':k=8:=zo;rw[hk']at htk;obtain⟨W5,rfl⟩:=eqx wr;have hs5:Blk W5 (w.heap.size+1) 209 (blocks bs qc1 m).vals:=(Hst.below A4.o (tB0 (tB0 L1 Hgr.size) (tA4 _))).below hbk (tB0 L1 Hgr.size);have hT5:Tabs W5:=((qfm (Ht.below A3.o Ht.size) Hgr.o (by have:=Ht.size;omega)).below A4.o (by have:=Ht.size;have:=A5.o;omega)).below hbk (by have:=Ht.size;have:=A5.o;omega);obtain⟨st1,hst1⟩:=xeq (blocks bs qc1 m);have hok1:st1.ok:=hst1▸qf4 bs qc1 qf5 m;rw[hst1]at hs5;obtain⟨Hst1,Hok1,AC,AD,Ht5,Hb5⟩:=zh6 hst1 hok1 hs5 hT5 htk hbk;have AE:=A5.o;have gne:W2.heap.size≠w.heap.size+1:=zo;clear hs5 hT5 hst1 hok1 htk hbk hk' hk8;go_wp2_with fail
    go_loopw [10] (fun i wr=>∃q p:Nat,Hid (64*q=p)∧p≤E∧i=.int .i64 p∧Blk wr (w.heap.size+1) 209 (blocks (qf7 bs 8) st1 q).vals∧W5.grownBy wr (some (w.heap.size+1))) (fun i _=>E - (intOf i).toNat)
    case atStart=>exact⟨0,0,rfl,by omega,rfl,AC.o,tB9 _ _⟩
    case round=>
     obtain⟨q,p,hp,hpE,rfl,hsq,hgq⟩:=hrel;by_cases hqE:p<E
     ·
      have q1:(p:Int)<E:=zo;have hp64:p+64≤E:=by have:=hp.o;omega
      have p128:p≤128:=zo;have pz:0≤(p:Int):=zo;have p128':(p:Int)≤128:=zo;have hrd:=qfb (Ht5.grown hgq (by intro e;injection e with e;exact gne e)) (p:=p) (by rw[qfk bs 8 zo];omega);rw[qfk bs 8 zo]at hrd;have hsq2:=hsq;rw[St.vals]at hsq2;have K:=qcj (w.heap.size+1) wr.heap.size (128 - p) (128 - p) _ ((qf7 bs 8).drop p) _ wr (qf4 (qf7 bs 8) st1 Hok1.o q) (by rw[tBk,qfk bs 8 zo]) zo (fun b hb=>qfl bs A6.o 8 b (List.mem_of_mem_drop hb)) hsq2 hrd (tA4 _) (qfm AD.o hgq (by have:=Ht.size;omega));obtain⟨HK,Hgq⟩:=zh2 K hgq;clear K hsq hsq2 hrd hgq;go_wp2_with fail
      refine HK.o.mono ?_;rintro e w2 ⟨rfl,h1,h2⟩;have w1:IntKind.i64.wrap ((p:Int)+64)=(p+64:Nat):=by rw[show ((p:Int)+64)=((p+64:Nat):Int) by omega];exact tBb _ zo
      go_wp2
      go_roundw
      case rel=>exact⟨q+1,p+64,(show 64*(q+1)=p+64 by have:=hp.o;omega),hp64,by go_num,by rw[blocks,hp.o];exact h1,qc7 Hgq.o h2⟩
      case measure=>simp[intOf];omega
     have q1:¬(p:Int)<E:=zo;have hq:q=qf6 (bs.length % 64) / 64:=by rw[A0.o,hr64,HE.o];have:=hp.o;omega
     have hsh:blocks (qf7 bs 8) st1 q=qf8 bs:=by
      unfold qf8;rw[←hq,A0.o,HM.o,Hst1.o]
     rw[hsh]at hsq;obtain⟨st,hst⟩:=xeq (qf8 bs);rw[hst]at hsq;obtain⟨W6,rfl⟩:=eqx wr;have hok:st.ok:=by rw[←hst];exact qf4 _ _ (qf4 _ _ qf5 _) _
     have hlist:=St.ok_list hok;have hZ6:Blk W6 w.heap.size 29 zLD:=(((A8.grown Hgr.o (by intro e;injection e with e;omega)).below A4.o zo).below Hb5.o zo).grown hgq (by intro e;injection e with e;omega);have hB6:Zb w W6:=(((A3.grown Hgr.o zo (by intro g hg;injection hg with hg;omega)).trans (A4.mono zo)).trans (Hb5.mono zo)).grown hgq (by have:=Hb5.size;have:=A4.size;omega) (by intro g hg;injection hg with hg;omega);obtain⟨AF,AG,AH,AI,AJ⟩:=zh5 hsq hZ6 hB6 hst hlist;have lW6:w.heap.size+1<W6.heap.size:=hsq.lt;have hD7:Blk (W6.alloc (.cells zLD 29)) W6.heap.size 29 (byv (qfc (qf9 st) 0)).toArray:=by
      have h:=Blk.new W6 29 zLD;exact h
     have AK:=zh1 hD7;clear hsq hZ6 hB6 hst hlist hok hD7 hq hsh hgq;go_wp2_with fail
     go_loopw [62] (fun i wr=>∃k:Nat,k≤32∧i=.int .i64 k∧Blk wr W6.heap.size 29 (byv (qfc (qf9 st) k)).toArray∧Zb W6 wr) (fun i _=>32 - (intOf i).toNat)
     case atStart=>exact⟨0,by omega,rfl,AK.o,(tA5 _ _).alloc (tA4 _) _⟩
     case round=>
      obtain⟨k,hk,rfl,hdk,hbk⟩:=hrel;by_cases hk32:k<32
      ·
       have qk:(k:Int)<32:=zo;obtain⟨a,ha⟩:=xeq (k / 4);obtain⟨b,hb⟩:=xeq (k % 4);obtain⟨s,hs⟩:=xeq (24 - 8*b);have u1:Int.tdiv (k:Int) 4=(a:Int):=by rw[Int.tdiv_eq_ediv_of_nonneg zo];omega
       have u2:Int.tmod (k:Int) 4=(b:Int):=by rw[Int.tmod_eq_emod_of_nonneg zo];omega
       have u3:IntKind.i64.wrap (a:Int)=a:=tBb _ zo;have u4:IntKind.i64.wrap (b:Int)=b:=tBb _ zo;have u5:IntKind.i64.wrap (8*(b:Int))=8*(b:Int):=tBb _ zo;have u6:IntKind.i64.wrap (24 - 8*(b:Int))=(s:Int):=by rw[show (24 - 8*(b:Int))=(s:Int) by omega];exact tBb _ zo
       have u7:(a:Int)<8:=zo;have cs:=(AF.below hbk lW6).cell a;rw[St.vals_list,qc2 (by simp[St.list];omega)]at cs;obtain⟨x,hx⟩:=xeq (st.list.getD a 0);rw[hx]at cs;have lx:x<4294967296:=hx▸AJ.getD a;have cd:=hdk.cell k;rw[qfa (by simp[qfc,qf9];omega)]at cd;have fd:=hdk.frozen k;obtain⟨Hdk,Hbk,Hx,Ha,Hb,Hs⟩:=zh6 hdk hbk hx ha hb hs;clear hdk hbk hx ha hb hs;go_wp2
       go_roundw
       case rel=>
        refine⟨k+1,by omega,by go_num,?_,Hbk.setCell (tA4 _) _⟩;have s24:s≤24:=by have:=Hs.o;omega
        have e:((x:Int) / 2^min s 32 % 256)=((x / 2^s % 256:Nat):Int):=by
         rw[Nat.min_eq_left zo];push_cast
         rfl
        rw[e,←qfd (L:=qf9 st) (k:=k) (v:=x / 2^s % 256) (by simp[qf9];omega) (by rw[qff st hk32,Ha.o,Hb.o,Hs.o,Hx.o])];exact Hdk.set_ k _
       case measure=>simp[intOf];omega
      have qk:¬(k:Int)<32:=zo;have hk':k=(qf9 st).length:=by simp[qf9];omega
      rw[hk',qfe]at hdk;have hV:(byv (qf9 st)).length=32:=by simp[byv,qf9]
      have hV1:=qau (qf9 st);obtain⟨V,hVV⟩:=xeq (byv (qf9 st));rw[hVV]at hdk hV hV1;have AL:=zh1 (qap hdk 0 V zjq);have z7:=AG.below hbk zo;obtain⟨HV,AM,AN,Hbk,HI⟩:=zh5 hV hV1 hVV hbk (zI 29 hV);clear hdk hV hV1 hVV hbk hk' hk32;go_wp2_with (first
       |(refine zld AL.o zu29 HI.o ?_)
       |(refine zst z7 HI.o (by simp[HV.o]) AM.o ?_))
      have z8:=z7.setRow V.toArray;have AO:=qap z8 0 V zjq;refine zrt AO zu29 HI.o ⟨?_,below_setRow (AH.trans (Hbk.mono zo)) (tA4 _) _⟩;rw[←AN.o,←AI.o];rfl
def cutW (width:Int):Nat:=if width<1∨32<width then 32 else width.toNat
theorem qfo(width:Int):1≤cutW width∧cutW width≤32:=by unfold cutW;split<;>omega
def cutD (d:List Nat)(w:Nat):List Nat:=d.take w++List.replicate (32 - w) 0
def sumH (w:Nat)(b:List Nat):List Nat:=cutD (sha b) w
def qfp (w:Nat)(b:List Nat):List Nat:=sumH w (0::b)
def qfq (w:Nat)(a b:List Nat):List Nat:=sumH w (1::(a.take w++b.take w))
def half (n:Nat):Nat:=2^Nat.log2 (n - 1)
theorem qfr(h:2≤n):1≤half n∧half n<n∧n≤2*half n:=by
 unfold half;have h1:=Nat.log2_self_le (n:=n - 1) zo;have h2:=@Nat.lt_log2_self (n - 1);have h3:0<2^Nat.log2 (n - 1):=Nat.pow_pos zdc;rw[Nat.pow_succ]at h2;omega
def qfs (w:Nat)(l:List (List Nat)):List Nat:=
 if h:l.length≤1 then(match l with|[]=>sumH w []|b::_=>qfp w b)
 else qfq w (qfs w (l.take (half l.length))) (qfs w (l.drop (half l.length)))
 termination_by l.length
 decreasing_by
 · have:=qfr (n:=l.length) zo;rw[tBd];omega
 have:=qfr (n:=l.length) zo;rw[tBk];omega
theorem qft(w:Nat):qfs w []=sumH w []:=by rw[qfs];rfl
theorem qfu(w:Nat)(b:List Nat):qfs w [b]=qfp w b:=by rw[qfs];rfl
theorem qfv(w:Nat){l:List (List Nat)}(h:2≤l.length):qfs w l=qfq w (qfs w (l.take (half l.length))) (qfs w (l.drop (half l.length))):=by
 rw[qfs,dif_neg zo]
def qfw (w:Nat)(l:List (List Nat))(i:Nat):List (List Nat):=
 if h:l.length≤1 then []
 else if i<half l.length then qfw w (l.take (half l.length)) i++[qfs w (l.drop (half l.length))]
 else qfw w (l.drop (half l.length)) (i - half l.length)++[qfs w (l.take (half l.length))]
 termination_by l.length
 decreasing_by
 · have:=qfr (n:=l.length) zo;rw[tBd];omega
 have:=qfr (n:=l.length) zo;rw[tBk];omega
theorem qfx(w:Nat){l:List (List Nat)}(i:Nat)(h:l.length≤1):qfw w l i=[]:=by rw[qfw,dif_pos h]
theorem qfy(w:Nat){l:List (List Nat)}(h:2≤l.length)(hi:i<half l.length):qfw w l i=qfw w (l.take (half l.length)) i++[qfs w (l.drop (half l.length))]:=by
 rw[qfw,dif_neg zo,if_pos hi]
theorem qfz(w:Nat){l:List (List Nat)}(h:2≤l.length)(hi:¬i<half l.length):qfw w l i=qfw w (l.drop (half l.length)) (i - half l.length)++[qfs w (l.take (half l.length))]:=by
 rw[qfw,dif_neg zo,if_neg hi]
def subH (w:Nat)(l:List (List Nat))(m:Nat)(whole:Bool):List (List Nat):=
 if h:l.length≤1∨m=l.length then(if whole then [] else [qfs w l])
 else if m≤half l.length then subH w (l.take (half l.length)) m whole++[qfs w (l.drop (half l.length))]
 else subH w (l.drop (half l.length)) (m - half l.length) false++[qfs w (l.take (half l.length))]
 termination_by l.length
 decreasing_by
 · have:=qfr (n:=l.length) zo;rw[tBd];omega
 have:=qfr (n:=l.length) zo;rw[tBk];omega
theorem qg0(w:Nat){l:List (List Nat)}(whole:Bool)(h:m=l.length):subH w l m whole=if whole then [] else [qfs w l]:=by rw[subH,dif_pos (.inr h)]
theorem qg1(w:Nat){l:List (List Nat)}(whole:Bool)(h:2≤l.length)(hm:m≠l.length)(hi:m≤half l.length):subH w l m whole=subH w (l.take (half l.length)) m whole++[qfs w (l.drop (half l.length))]:=by
 rw[subH,dif_neg zo,if_pos hi]
theorem qg2(w:Nat){l:List (List Nat)}(whole:Bool)(h:2≤l.length)(hm:m≠l.length)(hi:¬m≤half l.length):subH w l m whole=subH w (l.drop (half l.length)) (m - half l.length) false++[qfs w (l.take (half l.length))]:=by
 rw[subH,dif_neg zo,if_neg hi]
theorem qg3{d:List Nat}{w:Nat}(h:d.length=32)(hw:w≤32):(cutD d w).length=32:=by
 unfold cutD;rw[tA6,tBd,List.length_replicate];omega
theorem qg4{d:List Nat}{w:Nat}(h:∀x∈d,x<256):∀x∈cutD d w,x<256:=by
 intro x hx;rcases List.mem_append.1 hx with hx|hx
 · exact h x (tB7 hx)
 rw[(List.mem_replicate.1 hx).2];decide
abbrev RSt:=Nat × Option (Nat × Nat)
def qg5 (s:RSt)(a y:Nat):RSt:=match s.2 with
 |none=>(s.1,some (a,y))
 |some _=>s
def qg6 (bs:List Nat)(s:RSt)(n:Nat):RSt × List Nat:=match s.2 with
 |some _=>(s,[])
 |none=>if n≤bs.length - s.1 then((s.1+n,none),(bs.drop s.1).take n) else((s.1,some (bs.length,10)),[])
def num (l:List Nat):Nat:=l.foldl (fun n c=>n*256+c) 0
def rNum (bs:List Nat)(s:RSt)(k:Nat):RSt × Nat:=((qg6 bs s k).1,num (qg6 bs s k).2)
def rEnd (bs:List Nat)(s:RSt):Option (Nat × Nat):=match s.2 with
 |some x=>some x
 |none=>if s.1<bs.length then some (s.1,11) else none
def RNo (w:World)(B:Nat)(p:Option Addr):Option (Nat × Nat)→Prop
 |none=>p=none
 |some x=>∃h,p=some ⟨h,0,none⟩∧B≤h∧Blk w h 302 #[.int .i64 (x.1:Int),.int .i64 (x.2:Int)]
def Rd (w:World)(B g:Nat)(bs:List Nat)(s:RSt):Prop:=
 ∃A n c p,Blk w g 239 #[.slice A n c,.int .i64 (s.1:Int),.pointer p]∧B≤g∧OwnB w B (.slice A n c) bs∧n=bs.length∧n≤c∧s.1≤n∧n≤140737488355328∧RNo w B p s.2
theorem RNo.kept{p:Option Addr}{x:Option (Nat × Nat)}{row:Option Nat}(h:RNo w B p x)(hg:w.grownBy w' row)(hr:∀k cs,row=some k→¬Blk w k 302 cs):RNo w' B p x:=by
 cases x with
 |none=>exact h
 |some x=>
  obtain⟨k,e,hB,hk⟩:=h;exact⟨k,e,hB,hk.grown hg fun e=>hr k _ e.symm hk⟩
theorem Rd.kept{s:RSt}{t:TypeId}{cs:Array Value}(h:Rd w B g bs s)(hg:w.grownBy w' (some k))(hk:Blk w k t cs)(h1:t≠302)(h2:5≠t)(h3:g≠k):Rd w' B g bs s:=by
 obtain⟨A,n,c,p,hb,hB,ho,hn,hc,hs,hm,hp⟩:=h;refine⟨A,n,c,p,hb.grown hg (fun e=>h3 (by injection e)),hB,tB3 ho hg (.inr (qa3 ho hk h2)),hn,hc,hs,hm,hp.kept hg ?_⟩;rintro k' cs' e hk';injection e with e;subst e;exact hk.ne_ hk' h1 rfl
theorem Rd.below{s:RSt}(h:Rd w B g bs s)(hb:Zb w w'):Rd w' B g bs s:=by
 obtain⟨A,n,c,p,hg,hB,ho,hn,hc,hs,hm,hp⟩:=h;exact⟨A,n,c,p,hg.below hb hg.lt,hB,ho.kept hb,hn,hc,hs,hm,hp.kept (qad hb none) (fun _ _ e=>by cases e)⟩
theorem Rd.grown{s:RSt}{l:List (Int × Nat)}(h:Rd w B g bs s)(ho:OwnC w base v l)(hg:w.grownBy w' v.ownBlock):Rd w' B g bs s:=by
 rcases ho.2 with⟨rfl,_⟩|⟨q,cap,cur,rfl,_,hh,_⟩
 · exact h.below ⟨hg.os,hg.tape,hg.output,hg.size,fun k hk=>hg.block k hk (by simp[Value.ownBlock])⟩
 obtain⟨A,n,c,p,hgb,-⟩:=id h;exact h.kept (k:=q) (by simpa [Value.ownBlock] using hg) (show Blk w q 132 cur from hh) zdc zdc (hgb.ne_ (show Blk w q 132 cur from hh) zdc)
theorem Rd.lt{s:RSt}(h:Rd w B g bs s):g<w.heap.size:=by
 obtain⟨A,n,c,p,hg,-⟩:=h;exact hg.lt
theorem Rd.le{s:RSt}(h:Rd w B g bs s):B≤g:=by
 obtain⟨A,n,c,p,hg,hB,-⟩:=h;exact hB
theorem qg7(h:w.grownBy w' (some g))(hB:B≤g)(hg:g<w.heap.size):Below B w w':=
 ⟨h.os,h.tape,h.output,h.size,fun k hk=>h.block k zo (fun e=>by injection e;omega)⟩
theorem qg8(bs:List Nat)(A:Option Addr)(n c:Nat)(w:World)(hr:Reads w w.heap.size 1 A n (byv bs))(hn:n≤140737488355328):
 Zc 68 #[.slice A n c] w fun e w'=>∃g,e=.returned (.pointer (some ⟨g,0,none⟩))∧Rd w' w.heap.size g bs (0,none)∧Zb w w':=by
 have hl:=qb4 hr;go_enter Tryz.func68,Tryz.ntmps68
 go_wp2_with fail
 refine(qd3 A n c w.heap.size (byv bs) w hr (qau _) hn).mono ?_;rintro e w1 ⟨v,rfl,own1,b1⟩;obtain⟨A1,c1,rfl,hc1,-,-⟩:=qaf own1;go_wp2
 go_ret
 subst hl;exact⟨_,rfl,⟨A1,_,c1,none,Blk.new _ _ _,b1.size,OwnB.alloc own1 _,rfl,hc1,Nat.zero_le _,hn,rfl⟩,qah b1 _⟩
theorem qg9(B g:Nat)(bs:List Nat)(s:RSt)(a y:Nat)(w:World)(h:Rd w B g bs s)(hy:y≠0):
 Zc 149 #[.pointer (some ⟨g,0,none⟩),.int .i64 a,.int .i64 y] w fun e w'=>e=.returned (.tuple #[])∧Rd w' B g bs (qg5 s a y)∧w.grownBy w' (some g):=by
 obtain⟨s1,s2⟩:=s;obtain⟨A,n,c,p,hg,hB,ho,hn,hc,hs,hm,hp⟩:=h;have c2:=hg.cell 2;rw[show (#[Value.slice A n c,.int .i64 (s1:Int),.pointer p]:Array Value)[2]? =some (.pointer p) from rfl]at c2;have f2:=hg.frozen 2;have hy':¬(y:Int)=0:=zo;have hlt:=hg.lt;obtain⟨HG,HO⟩:=zh2 hg ho;clear hg ho;cases s2 with
 |none=>
  obtain rfl:p=none:=hp;go_enter Tryz.func149,Tryz.ntmps149
  go_wp2
  go_end0
  refine⟨rfl,⟨A,n,c,some ⟨w.heap.size,0,none⟩,?_,hB,?_,hn,hc,hs,hm,?_⟩,?_⟩
  · exact(HG.set_ 2 _).alloc _
  · exact(OwnB.far HO.o (p:=⟨g,2,none⟩) (OwnB.blk_ne HO.o HG.o zdc) _).alloc _
  · exact⟨_,rfl,by omega,by simpa using Blk.new (w.setCell ⟨g,2,none⟩ (.pointer (some ⟨w.heap.size,0,none⟩))) 302 #[.int .i64 (a:Int),.int .i64 (y:Int)]⟩
  exact qaa (qab (tB9 _ _) (.inl rfl) _) _
 |some x=>
  obtain⟨k,rfl,hk,hkb⟩:=hp;have HK:=zh1 hkb;clear hkb;go_enter Tryz.func149,Tryz.ntmps149
  go_wp2
  go_end0
  exact⟨rfl,⟨A,n,c,_,HG.o,hB,HO.o,hn,hc,hs,hm,⟨k,rfl,hk,HK.o⟩⟩,tB9 _ _⟩
theorem qga(B g:Nat)(bs:List Nat)(s:RSt)(y:Nat)(w:World)(h:Rd w B g bs s)(hy:y≠0):
 Zc 72 #[.pointer (some ⟨g,0,none⟩),.int .i64 y] w fun e w'=>e=.returned (.tuple #[])∧Rd w' B g bs (qg5 s s.1 y)∧w.grownBy w' (some g):=by
 have h':=h;obtain⟨A,n,c,p,hg,-⟩:=h';have c1:=hg.cell 1;rw[show (#[Value.slice A n c,.int .i64 (s.1:Int),.pointer p]:Array Value)[1]? =some (.int .i64 (s.1:Int)) from rfl]at c1;have H:=zh1 h;clear h hg;go_enter Tryz.func72,Tryz.ntmps72
 go_wp2_with fail
 refine(qg9 B g bs s s.1 y w H.o hy).mono ?_;rintro e w1 ⟨rfl,h1,g1⟩;go_wp2
 go_end0
 exact⟨rfl,h1,g1⟩
theorem qgb(B g:Nat)(bs:List Nat)(s:RSt)(m:Nat)(w:World)(h:Rd w B g bs s)(hm1:m≤140737488355328):
 Zc 147 #[.pointer (some ⟨g,0,none⟩),.int .i64 m] w fun e w'=>∃A n c,e=.returned (.slice A n c)∧n≤c∧Reads w' w'.heap.size 1 A n (byv (qg6 bs s m).2)∧Rd w' B g bs (qg6 bs s m).1∧w.grownBy w' (some g):=by
 have h':=h;obtain⟨s1,s2⟩:=s;obtain⟨A,n,c,p,hg,hB,ho,hn,hc,hs,hm,hp⟩:=h';have c0:=hg.cell 0;have c1:=hg.cell 1;have c2:=hg.cell 2;have f1:=hg.frozen 1;rw[show (#[Value.slice A n c,.int .i64 (s1:Int),.pointer p]:Array Value)[0]? =some (.slice A n c) from rfl]at c0;rw[show (#[Value.slice A n c,.int .i64 (s1:Int),.pointer p]:Array Value)[1]? =some (.int .i64 (s1:Int)) from rfl]at c1;rw[show (#[Value.slice A n c,.int .i64 (s1:Int),.pointer p]:Array Value)[2]? =some (.pointer p) from rfl]at c2;obtain⟨H,HG,HO,HN,HP⟩:=zh5 h hg ho hn hp;clear hg ho h hn hp;dsimp only at hs;cases s2 with
 |some x=>
  obtain⟨k,rfl,hk,hkb⟩:=HP.o;clear hkb;go_enter Tryz.func147,Tryz.ntmps147
  go_wp2
  go_ret
  exact⟨none,0,0,rfl,tA4 _,Reads.none_,H.o,tB9 _ _⟩
 |none=>
  obtain rfl:p=none:=HP.o;by_cases hmn:m≤n - s1
  ·
   have q1:¬(m:Int)>n - s1:=zo;have hr:qg6 bs (s1,none) m=((s1+m,none),(bs.drop s1).take m):=by
    show (if m≤bs.length - s1 then _ else _)=_;rw[←HN.o,if_pos hmn]
   have HR:=zh1 hr;have q2:(s1:Int)+m≤n:=zo;clear hr;go_enter Tryz.func147,Tryz.ntmps147
   go_wp2
   obtain⟨S,HS⟩:=zS fun w'=>w'.cell? ⟨g,0,none⟩=some (.slice A n c)∧w'.cell? ⟨g,1,none⟩=some (.int .i64 (s1:Int))
   refine zrs S 12 (zq 0 12 []) ((HS.o _).mpr ⟨c0,c1⟩) ?_;repeat(refine zrt0 ?_)
   refine qbf ?_;go_upto_region 7 with(fail)
   obtain⟨W1,hW1⟩:=eqx (w.setCell ⟨g,1,none⟩ (.int .i64 ((s1:Int)+m)));have hd:(w.setCell ⟨g,1,none⟩ (.int .i64 ((s1:Int)+m))).drew=W1.drew:=by rw[hW1]
   rw[hd];have hg1:=HG.set_ 1 (.int .i64 ((s1:Int)+m));rw[←hW1]at hg1;have k0:W1.cell? ⟨g,0,none⟩=some (.slice A n c):=hg1.cell 0;have k1:W1.cell? ⟨g,1,none⟩=some (.int .i64 ((s1:Int)+m)):=hg1.cell 1;have e1:(s1:Int)+m - m=s1:=zo;clear c0 c1 c2 f1 HS;obtain⟨S',HS⟩:∃S:World→Prop,Hid (∀w',S w'=(w'.cell? ⟨g,0,none⟩=some (.slice A n c)∧w'.cell? ⟨g,1,none⟩=some (.int .i64 ((s1:Int)+m)))):=⟨_,fun _=>rfl⟩;refine zrs S' 16 (zq 0 16 []) ((HS.o _).mpr ⟨k0,k1⟩) ?_;repeat(refine zrt0 ?_)
   obtain⟨A2,hA2⟩:∃A2,(if c=s1 then A else Option.map (fun x=>x.add s1) A)=A2:=⟨_,rfl⟩;obtain⟨C2,hC2⟩:=xeq (c - s1);refine qbg rfl rfl ⟨.slice A2 m C2,fun w1 hS=>?_,?_⟩
   · rw[HS.o]at hS
     go_split_ands
     go_simp;rw[if_pos ⟨by omega,by omega⟩,if_pos zo,show ((s1:Int)+m).toNat - s1=m by omega]
   obtain⟨A0,A1⟩:=zh2 hA2 hC2;clear hA2 hC2;simp only[Act.put,tA0,tA1,tA2];repeat(refine zrt0 ?_)
   refine qbf ?_;go_wp2
   go_ret
   have own1:OwnB W1 B (.slice A n c) bs:=by
    rw[hW1];exact OwnB.far HO.o (p:=⟨g,1,none⟩) (OwnB.blk_ne HO.o HG.o zdc) _
   obtain⟨A',c',e,-,-,rd⟩:=OwnB.slice own1;rw[←HN.o]at e rd;injection e with e _ _;subst e;have rd2:=(rd.cut (k:=s1) (cap:=c) hs hc).pre (k:=m) zo;rw[Nat.mul_one]at rd2;rw[A0.o]at rd2;refine⟨A2,m,C2,rfl,by have:=A1.o;omega,?_,?_,?_⟩
   · rw[HR.o,show byv ((bs.drop s1).take m)=((byv bs).drop s1).take m by simp[byv]]
     exact rd2
   · rw[HR.o]
     exact⟨A,n,c,none,hg1,hB,own1,HN.o,hc,by dsimp only;omega,hm,rfl⟩
   rw[hW1];exact qa9 (qa9 (qab (g:=g) (p:=⟨g,1,none⟩) (tB9 w _) (.inl rfl) _))
  have q1:(m:Int)>n - s1:=zo;have hr:qg6 bs (s1,none) m=((s1,some (n,10)),[]):=by
   show (if m≤bs.length - s1 then _ else _)=_;rw[←HN.o,if_neg hmn]
  have HR:=zh1 hr;clear hr;go_enter Tryz.func147,Tryz.ntmps147
  go_wp2
  obtain⟨S,HS⟩:=zS fun w'=>w'.cell? ⟨g,0,none⟩=some (.slice A n c)∧w'.cell? ⟨g,1,none⟩=some (.int .i64 (s1:Int))
  refine zrs S 12 (zq 0 12 []) ((HS.o _).mpr ⟨c0,c1⟩) ?_;repeat(refine zrt0 ?_)
  refine qbf ?_;go_wp2_with fail
  refine(qg9 B g bs (s1,none) n 10 w.drew H.o zdc).mono ?_;rintro _ w1 ⟨rfl,h1,g1⟩;go_wp2
  go_ret
  exact⟨none,0,0,rfl,tA4 _,by rw[HR.o];exact Reads.none_,by rw[HR.o];exact h1,⟨g1.os,g1.tape,g1.output,g1.size,g1.block⟩⟩
theorem qgc(l:List Nat)(c:Nat):num (l++[c])=num l*256+c:=by simp[num]
theorem qgd(l:List Nat)(h:∀x∈l,x<256):num l<256^l.length:=by
 have key:∀k,num (l.take k)<256^(l.take k).length:=by
  intro k;induction k with
  |zero=>simp[num]
  |succ k ih=>
   by_cases hk:k<l.length
   · rw[List.take_add_one,tA7 hk,Option.toList_some,qgc,tA6]
     have:=h _ (List.getElem_mem hk);rw[List.length_singleton,Nat.pow_succ];omega
   rw[tB5 zo]at ih ⊢;exact ih
 simpa [List.take_length] using key l.length
theorem or64(n c:Nat)(hn:n<72057594037927936)(hc:c<256):bits .or .u64 ((n:Int)*256) (c:Int)=((n*256+c:Nat):Int):=by
 have e:n*256+c=(n*256)|||c:=by
  have:=Nat.two_pow_add_eq_or_of_lt (i:=8) (b:=c) (by simpa using hc) n;rw[Nat.mul_comm];exact this
 have h1:(n*256:Nat)<2^64:=zo;have h2:((n*256)|||c)<2^64:=Nat.or_lt_two_pow h1 zo;rw[e,show ((n:Int)*256)=((n*256:Nat):Int) by push_cast;rfl];show IntKind.u64.wrap ((BitVec.ofInt 64 ((n*256:Nat):Int)|||BitVec.ofInt 64 (c:Int)).toNat:Int)=_;rw[BitVec.toNat_or,BitVec.ofInt_natCast,BitVec.ofInt_natCast,BitVec.toNat_ofNat,BitVec.toNat_ofNat,Nat.mod_eq_of_lt h1,Nat.mod_eq_of_lt (show c<2^64 by omega),IntKind.wrap_u64];omega
theorem qge(bs:List Nat)(s:RSt)(m:Nat):(qg6 bs s m).2.length≤m:=by
 unfold qg6;split
 · simp
 split
 · simp;omega
 simp
theorem qgf(bs:List Nat)(s:RSt)(m:Nat)(h:∀x∈bs,x<256):∀x∈(qg6 bs s m).2,x<256:=by
 unfold qg6;split
 · simp
 split
 · intro x hx
   exact h x (List.mem_of_mem_drop (tB7 hx))
 simp
theorem qgg(bs:List Nat)(s:RSt)(m:Nat)(h:∀x∈bs,x<256):(rNum bs s m).2<256^m:=
 tB0 (qgd _ (qgf bs s m h)) (Nat.pow_le_pow_right zo (qge bs s m))
theorem qgh(B g:Nat)(bs:List Nat)(s:RSt)(k:Int)(w:World)(h:Rd w B g bs s)(hb:∀x∈bs,x<256):
 Zc 69 #[.pointer (some ⟨g,0,none⟩),.int .i64 k] w fun e w'=>e=.returned (.int .u64 (rNum bs s (qb0 k)).2)∧Rd w' B g bs (rNum bs s (qb0 k)).1∧w.grownBy w' (some g):=by
 obtain⟨hs1,hs8⟩:=qb1 k;go_enter Tryz.func69,Tryz.ntmps69
 go_wp2_with fail
 refine zca (qd0 _ _) ?_;obtain⟨z,hz⟩:=xeq (qb0 k);rw[hz]at hs1 hs8 ⊢;have HZ:=zh1 hz;clear hz;go_wp2_with fail
 refine(qgb B g bs s z w h zo).mono ?_;rintro e w1 ⟨A,n,c,rfl,hnc,rd,h1,g1⟩;have hlt:=qgf bs s z hb;have hle:=qge bs s z;have HX:Hid (rNum bs s z=((qg6 bs s z).1,num (qg6 bs s z).2)):=rfl;obtain⟨T,hT⟩:=xeq ((qg6 bs s z).2);obtain⟨s',hs'⟩:=xeq ((qg6 bs s z).1);rw[hT]at rd hlt hle HX;rw[hs']at h1 HX;have hl:=qb4 rd;have hn8:n≤8:=zo;obtain⟨A1,H1,G1,HL⟩:=zh4 rd h1 g1 hl;clear rd h1 g1 hT hs' h hl;go_wp2
 obtain⟨wo,rfl⟩:=eqx w1;go_loopw [5,13] (fun v i wr=>∃j:Nat,j≤n∧i=.int .i64 j∧v=.int .u64 (num (T.take j):Nat)∧wr=wo) (fun _ i _=>n - (intOf i).toNat)
 case atStart=>exact⟨0,by omega,rfl,rfl,rfl⟩
 case round=>
  obtain⟨j,hj,rfl,rfl,rfl⟩:=hrel;by_cases hjn:j<n
  ·
   have qk:(j:Int)<n:=zo;obtain⟨x,hx⟩:∃x,T[j]? =some x:=⟨_,tA7 (by rw[HL.o];exact hjn)⟩;obtain⟨gb,go,hA,hgb,hrd⟩:=A1.mid zo zo;have m0:=hrd j (.int .u8 x) (by simp[byv,hx]);subst hA;have hx256:x<256:=hlt x (tB2 hx);have hxx:IntKind.u64.wrap (x:Int)=x:=tBa _ zo;have hnl:=qgd (T.take j) (fun y hy=>hlt y (tB7 hy));have hpow:256^(T.take j).length≤256^7:=Nat.pow_le_pow_right zo (by rw[tBd];have:=HL.o;omega);have hnew:num (T.take (j+1))=num (T.take j)*256+x:=by rw[List.take_add_one,hx];exact qgc _ _
   obtain⟨y,hy⟩:=xeq (num (T.take j));rw[hy]at hnl hnew ⊢;have hy56:y<72057594037927936:=zo;have hor:=or64 y x hy56 hx256;have A0:=zh1 hnew;clear hnl hpow hnew hy hrd hx;have HJ:=zh1 hjn;go_wp2
   go_roundw
   case rel=>exact⟨j+1,HJ.o,by go_num,by rw[A0.o];push_cast;rfl,by first|rfl|trivial⟩
   case measure=>have:=HJ.o;simp[intOf];omega
  have qk:¬(j:Int)<n:=zo;rw[tB5 (by rw[HL.o];omega)];go_wp2
  go_ret
  exact⟨by rw[HZ.o,HX.o];rfl,by rw[HZ.o,HX.o];exact H1.o,G1.o⟩
def rDig (bs:List Nat)(s:RSt):RSt × List Nat:=((qg6 bs s 32).1,(qg6 bs s 32).2++List.replicate (32 - (qg6 bs s 32).2.length) 0)
theorem qgi(bs:List Nat)(s:RSt):(rDig bs s).2.length=32:=by
 have:=qge bs s 32;simp[rDig];omega
theorem qgj(bs:List Nat)(s:RSt)(h:∀x∈bs,x<256):∀x∈(rDig bs s).2,x<256:=by
 intro x hx;simp only[rDig,tBg,List.mem_replicate]at hx;rcases hx with hx|⟨-,rfl⟩
 · exact qgf bs s 32 h x hx
 omega
theorem qgk(B g:Nat)(bs:List Nat)(s:RSt)(w:World)(h:Rd w B g bs s):
 Zc 71 #[.pointer (some ⟨g,0,none⟩)] w fun e w'=>e=.returned (.agg (byv (rDig bs s).2).toArray)∧Rd w' B g bs (rDig bs s).1∧w.grownBy w' (some g):=by
 have hX:rDig bs s=((qg6 bs s 32).1,(qg6 bs s 32).2++List.replicate (32 - (qg6 bs s 32).2.length) 0):=rfl;have hle:=qge bs s 32;have T2:=fun w h=>qgb B g bs s 32 w h zo
 obtain⟨T,hT⟩:=xeq ((qg6 bs s 32).2);obtain⟨s',hs'⟩:=xeq ((qg6 bs s 32).1);rw[hT]at hle;rw[hT,hs']at hX;simp only[hT,hs']at T2;obtain⟨HX,A0,H⟩:=zh3 hX T2 h;have hlt:=h.lt;clear hX T2 hT hs' h;obtain⟨W0,hW0⟩:=eqx ((w.alloc (.cells zLD 29)).alloc (.cells zLD 29));have r0:=zNb hW0;have d0:=zNc hW0;have b0:=zMb hW0;obtain⟨R0,D0,B0,A1⟩:=zh4 r0 d0 b0 hW0;clear r0 d0 b0 hW0;go_enter Tryz.func71,Tryz.ntmps71
 go_upto_region 2 with(fail)
 rw[←A1.o];obtain⟨S,HS⟩:∃S:World→Prop,Hid (∀w',S w'):=⟨fun _=>True,fun _=>trivial⟩;refine zrs S 3 [(0,false),(1,false),(2,true),(3,true)] (HS.o _) ?_;iterate 2 (refine zrb ?_)
 refine zw ?_;go_simp;refine(A0.o W0.drew (H.below B0.drew)).mono ?_;rintro e w1 ⟨A,n,c,rfl,hnc,rd,h1,g1⟩;refine⟨HS.o _,zput ?_⟩;have hl:=qb4 rd;have d1:=D0.grown (w:=W0.drew) g1 (by simp;omega);have r1:=R0.grown (w:=W0.drew) g1 (by simp;omega);refine zw ?_;refine qf0 (.tmp 4) (.tmp 6) 23 23 rfl 5 zk zk _ _ _ _ _ _ rfl rfl (w.heap.size+1) 0 (byv (List.replicate 32 0)) 29 d1 (byv T) (by rw[qat,hl];show n=min n 32;omega) (fun h0=>⟨rfl,?_⟩) (by rw[qat,qat,List.length_replicate];omega) (qau _) ?_
 · obtain⟨ad,e,-,hc⟩:=rd.2 (by rw[qat]at h0;omega)
   exact⟨ad,e,hc⟩
 intro w2 HG2 g2;rw[show (byv T).length=n by rw[qat,hl]];refine⟨fun _=>HS.o _,zput ?_⟩;refine qbf ?_;have d2:Blk w2 (w.heap.size+1) 29 (byv (T++List.replicate (32 - T.length) 0)).toArray:=by
  have h:=HG2.o;rw[qey]at h;exact h
 have r2:=r1.grown g2 zm;have h2:Rd w2 B g bs s':=h1.kept g2 d1 zdc zdc zo;obtain⟨D,hD⟩:=xeq (T++List.replicate (32 - T.length) 0);have lD:(byv D).length=32:=by rw[qat,←hD];simp;omega
 have oD:=qau D;rw[hD]at d2 HX;obtain⟨A2,HI,HI',R2,D2,H2,G1,G2⟩:=zh8 (qap d2 0 (byv D) zjq) (show (Tryz.prog.info? 29).map (·.size)=some (byv D).length by rw[lD];exact Tryz.dig_info) (show (Tryz.prog.info? 29).map (·.size)=some (byv D).toArray.size by rw[tB6,lD];exact Tryz.dig_info) r2 d2 h2 g1 g2;obtain⟨LD,OD⟩:=zh2 lD oD;clear r2 d2 h2 g1 g2 d1 r1 lD oD rd h1 hD HG2;go_wp2_with (first
  |(refine zld A2.o zu29 HI.o ?_)
  |(refine wpList_store_row rfl 29 (.tmp 2) (.tmp 8) rfl w.heap.size (byv D).toArray rfl rfl 29 _ R2.o HI'.o (by simp[LD.o]) (by simpa using OD.o) ?_))
 have z8:=R2.setRow (byv D).toArray;have A3:=qap z8 0 (byv D) zjq;refine bodyPost_ret (v:=.agg (byv D).toArray) (qao rfl rfl (run_loadVar_mid _ _ 0 _ (byv D) _ A3 Tryz.underlying29 rfl (by simpa using HI.o))) rfl ⟨by rw[HX.o],?_,?_⟩
 · rw[HX.o]
   exact H2.kept (qam _ _ _) R2.o zdc zdc zo
 have q1:=qac (qad B0.drew (some g)) (row:=some g) G1.o zm;have q2:=qac q1 G2.o zm;exact qac q2 (qam w2 w.heap.size _) zm
def RErr (w:World)(B:Nat)(v:Value):Option (Nat × Nat)→Prop
 |none=>v=.nilIface
 |some x=>∃h,v=.iface 237 (.pointer (some ⟨h,0,none⟩))∧B≤h∧Blk w h 302 #[.int .i64 (x.1:Int),.int .i64 (x.2:Int)]
theorem qgl(B g:Nat)(bs:List Nat)(s:RSt)(w:World)(h:Rd w B g bs s):
 Zc 151 #[.pointer (some ⟨g,0,none⟩)] w fun e w'=>∃v,e=.returned v∧RErr w' w.heap.size v (rEnd bs s)∧Zb w w':=by
 obtain⟨s1,s2⟩:=s;obtain⟨A,n,c,p,hg,hB,ho,hn,hc,hs,hm,hp⟩:=h;have c0:=hg.cell 0;have c1:=hg.cell 1;have c2:=hg.cell 2;rw[show (#[Value.slice A n c,.int .i64 (s1:Int),.pointer p]:Array Value)[0]? =some (.slice A n c) from rfl]at c0;rw[show (#[Value.slice A n c,.int .i64 (s1:Int),.pointer p]:Array Value)[1]? =some (.int .i64 (s1:Int)) from rfl]at c1;rw[show (#[Value.slice A n c,.int .i64 (s1:Int),.pointer p]:Array Value)[2]? =some (.pointer p) from rfl]at c2;dsimp only at hs;have hlt:=hg.lt;cases s2 with
 |some x=>
  obtain⟨a,y⟩:=x;obtain⟨k,rfl,hk,hkb⟩:=hp;have k0:=hkb.cell 0;have k1:=hkb.cell 1;rw[show (#[Value.int .i64 (a:Int),.int .i64 (y:Int)]:Array Value)[0]? =some (.int .i64 (a:Int)) from rfl]at k0;rw[show (#[Value.int .i64 (a:Int),.int .i64 (y:Int)]:Array Value)[1]? =some (.int .i64 (y:Int)) from rfl]at k1;have hklt:=hkb.lt;clear hkb hg ho;go_enter Tryz.func151,Tryz.ntmps151
  go_wp2
  obtain⟨S,HS⟩:=zS fun w'=>w'.cell? ⟨g,2,none⟩=some (.pointer (some ⟨k,0,none⟩))∧w'.cell? ⟨k,0,none⟩=some (.int .i64 (a:Int))∧w'.cell? ⟨k,1,none⟩=some (.int .i64 (y:Int))
  refine zrs S 18 (zq 0 15 [(15,true),(16,false),(17,false)]) ((HS.o _).mpr ⟨c2,k0,k1⟩) ?_;repeat(refine zrt0 ?_)
  refine zw ?_;go_simp;refine⟨(HS.o _).mpr ⟨qaj c2 _,qaj k0 _,qaj k1 _⟩,zput ?_⟩;repeat(refine zrt0 ?_)
  refine qbf ?_;go_wp2
  go_ret
  exact⟨_,rfl,⟨_,rfl,tA4 _,Blk.new _ _ _⟩,qah (tA5 _ _).drew _⟩
 |none=>
  obtain rfl:p=none:=hp;by_cases hlt2:s1<n
  ·
   have q:(s1:Int)<n:=zo;have HE:Hid (rEnd bs (s1,none)=some (s1,11)):=by
    show (if s1<bs.length then _ else _)=_;rw[←hn,if_pos hlt2]
   clear hg ho hn;go_enter Tryz.func151,Tryz.ntmps151
   go_wp2
   obtain⟨S,HS⟩:=zS fun w'=>w'.cell? ⟨g,0,none⟩=some (.slice A n c)∧w'.cell? ⟨g,1,none⟩=some (.int .i64 (s1:Int))
   refine zrs S 11 (zq 0 11 []) ((HS.o _).mpr ⟨c0,c1⟩) ?_;repeat(refine zrt0 ?_)
   refine qbf ?_;go_wp2
   go_ret
   exact⟨_,rfl,by rw[HE.o];exact⟨_,rfl,tA4 _,Blk.new _ _ _⟩,qah (tA5 _ _).drew _⟩
  have q:¬(s1:Int)<n:=zo;have HE:Hid (rEnd bs (s1,none)=none):=by
   show (if s1<bs.length then _ else _)=_;rw[←hn,if_neg hlt2]
  clear hg ho hn;go_enter Tryz.func151,Tryz.ntmps151
  go_wp2
  obtain⟨S,HS⟩:=zS fun w'=>w'.cell? ⟨g,0,none⟩=some (.slice A n c)∧w'.cell? ⟨g,1,none⟩=some (.int .i64 (s1:Int))
  refine zrs S 11 (zq 0 11 []) ((HS.o _).mpr ⟨c0,c1⟩) ?_;repeat(refine zrt0 ?_)
  refine qbf ?_;go_wp2
  go_ret
  exact⟨_,rfl,by rw[HE.o];rfl,(tA5 _ _).drew⟩
section
open Go.RowKit Go.Extern.Stop Go.Stop Go.Extern
theorem qgm(t:Value)(w:World):
 Zc 126 #[.nilIface,t] w fun e w'=>e=.returned (.bool false)∧w'=w:=by
 go_enter Tryz.func126,Tryz.ntmps126
 go_wp2
 go_ret
 exact⟨rfl,rfl⟩
theorem As.methodKind(h:Value)(w:World):(Go.method 495 327 (.agg #[h]) "Kind").run Tryz.prog w=.ok (280,h) w:=by kernel_rfl
theorem rlm(z:Sem Value)(f:TypeId→Addr→Nat→Nat→Sem Value)(v:Value):
 ReflectliteValue.method z f #[v]=(do match ←ReflectliteValue.parts v with|none=>z|some (t,a,fl)=>f t a fl (fl % 32)):=rfl
theorem As.methodElem(h:Value)(w:World):(Go.method 495 327 (.agg #[h]) "Elem").run Tryz.prog w=.ok (294,.agg #[h]) w:=by kernel_rfl
theorem As.methodImplements(h:Value)(w:World):(Go.method 495 327 (.agg #[h]) "Implements").run Tryz.prog w=.ok (295,.agg #[h]) w:=by kernel_rfl
theorem As.methodAssignableTo(h:Value)(w:World):(Go.method 495 327 (.agg #[h]) "AssignableTo").run Tryz.prog w=.ok (292,.agg #[h]) w:=by kernel_rfl
theorem rls(v x:Value):ReflectliteValue.set #[v,x]=(do
 let (some (dst,a,fl),some (src,b,_)):=(←ReflectliteValue.parts v,←ReflectliteValue.parts x)
  |unsupported (.noEntry "extern/(internal/reflectlite.Value).Set.zeroValue")
 if fl / ReflectliteValue.flagAddr % 2==0 then unsupported (.noEntry "extern/(internal/reflectlite.Value).Set.unaddressable")
 let val ←loadVar src b
 if ←Rtype.directlyAssignable dst src then storeVar dst a val
 else if ←Rtype.implements dst src then
  if (←Rtype.kind src)==20 then
   match val with
   |.nilIface=>unsupported (.noEntry "extern/reflectlite: a nil value of one interface type handed on as a value of another")
   |_=>storeVar dst a val
  else storeVar dst a (.iface src val)
 else panicString ("reflectlite.Set: value of type "++(←Rtype.spelt src)++ " is not assignable to type "++(←Rtype.spelt dst))
 pure (.tuple #[])):=rfl
structure AsT (t1 t2 tb:TypeId):Prop where
 valueOf27:∀(t:Addr) (w:World),(ReflectliteValue.unpack (.iface t2 (.pointer (some t)))).run Tryz.prog w=.ok (.agg #[.pointer (some ⟨3,t2,none⟩),.pointer (some ⟨w.heap.size,0,none⟩),.int .u64 150]) (w.alloc (.cells #[.pointer (some t)] t2)):=by(intros;kernel_rfl)
 type27:∀(a:Addr) (w:World),(ReflectliteValue.methodAny (ReflectliteValue.valueError "reflectlite.Value.Type" 0) (fun t _ _ _=>ReflectliteType.toType t) #[.agg #[.pointer (some ⟨3,t2,none⟩),.pointer (some a),.int .u64 150]]).run Tryz.prog w=.ok (.iface 327 (.agg #[.pointer (some ⟨3,t2,none⟩)])) w:=by(intros;kernel_rfl)
 kind27:∀(w:World),((ReflectliteType.abiMethod fun t=>(fun a:Nat=>Value.int IntKind.u8 (a:Int))<$>Rtype.kind t) #[.pointer (some ⟨3,t2,none⟩)]).run Tryz.prog w=.ok (.int .u8 22) w:=by(intros;kernel_rfl)
 kind25:∀(w:World),((ReflectliteType.abiMethod fun t=>(fun a:Nat=>Value.int IntKind.u8 (a:Int))<$>Rtype.kind t) #[.pointer (some ⟨3,t1,none⟩)]).run Tryz.prog w=.ok (.int .u8 22) w:=by(intros;kernel_rfl)
 parts27:∀(a:Addr) (w:World),(ReflectliteValue.parts (.agg #[.pointer (some ⟨3,t2,none⟩),.pointer (some a),.int .u64 150])).run Tryz.prog w=.ok (some (t2,a,150)) w:=by(intros;kernel_rfl)
 elem27:∀(w:World),(ReflectliteType.method ReflectliteType.elem #[.agg #[.pointer (some ⟨3,t2,none⟩)]]).run Tryz.prog w=.ok (.iface 327 (.agg #[.pointer (some ⟨3,t1,none⟩)])) w:=by(intros;kernel_rfl)
 implements25:∀(w:World),(ReflectliteType.relation "Implements" ReflectliteType.implements_ #[.agg #[.pointer (some ⟨3,t1,none⟩)],.iface 327 (.agg #[.pointer (some ⟨3,81,none⟩)])]).run Tryz.prog w=.ok (.bool true) w:=by(intros;kernel_rfl)
 typeOf25:∀(v:Value) (w:World),(ReflectliteType.typeOf #[.iface t1 v]).run Tryz.prog w=.ok (.iface 327 (.agg #[.pointer (some ⟨3,t1,none⟩)])) w:=by(intros;kernel_rfl)
 assignable25:∀(w:World),(ReflectliteType.relation "AssignableTo" ReflectliteType.assignableTo #[.agg #[.pointer (some ⟨3,t1,none⟩)],.iface 327 (.agg #[.pointer (some ⟨3,t1,none⟩)])]).run Tryz.prog w=.ok (.bool true) w:=by(intros;kernel_rfl)
 valueOf25:∀(e:Addr) (w:World),(ReflectliteValue.unpack (.iface t1 (.pointer (some e)))).run Tryz.prog w=.ok (.agg #[.pointer (some ⟨3,t1,none⟩),.pointer (some ⟨w.heap.size,0,none⟩),.int .u64 150]) (w.alloc (.cells #[.pointer (some e)] t1)):=by(intros;kernel_rfl)
 elemOf27:∀(w:World),(Rtype.elem? t2).run Tryz.prog w=.ok (some t1) w:=by(intros;kernel_rfl)
 mk25:∀(p:Addr) (w:World),(ReflectliteValue.mk t1 p ReflectliteValue.flagAddr).run Tryz.prog w=.ok (.agg #[.pointer (some ⟨3,t1,none⟩),.pointer (some p),.int .u64 406]) w:=by(intros;kernel_rfl)
 parts25a:∀(a:Addr) (w:World),(ReflectliteValue.parts (.agg #[.pointer (some ⟨3,t1,none⟩),.pointer (some a),.int .u64 406])).run Tryz.prog w=.ok (some (t1,a,406)) w:=by(intros;kernel_rfl)
 parts25:∀(a:Addr) (w:World),(ReflectliteValue.parts (.agg #[.pointer (some ⟨3,t1,none⟩),.pointer (some a),.int .u64 150])).run Tryz.prog w=.ok (some (t1,a,150)) w:=by(intros;kernel_rfl)
 direct25:∀(w:World),(Rtype.directlyAssignable t1 t1).run Tryz.prog w=.ok true w:=by(intros;kernel_rfl)
 size25:∀(w:World),(sizeOf t1).run Tryz.prog w=.ok 1 w:=by(intros;kernel_rfl)
 u1:Tryz.prog.underlying t1=some (.pointer tb):=by kernel_rfl
 u2:Tryz.prog.underlying t2=some (.pointer t1):=by kernel_rfl
theorem AsT.isNil27{tb:TypeId}(h:AsT t1 t2 tb)(a p:Addr)(W:World)(ha:W.cell? a=some (.pointer (some p))):
 (ReflectliteValue.method (ReflectliteValue.valueError "reflectlite.Value.IsNil" 0) ReflectliteValue.isNil #[.agg #[.pointer (some ⟨3,t2,none⟩),.pointer (some a),.int .u64 150]]).run Tryz.prog W=.ok (.bool false) W:=by
 rw[rlm];simp only[Sem.run_bind,h.parts27,Result.andThen];simp[ReflectliteValue.isNil,loadVar,isAgg,underlying,h.u2,ha,Result.andThen]
theorem AsT.elemV27{tb:TypeId}(h:AsT t1 t2 tb)(a p:Addr)(W:World)(ha:W.cell? a=some (.pointer (some p))):
 (ReflectliteValue.method (ReflectliteValue.valueError "reflectlite.Value.Elem" 0) ReflectliteValue.elem #[.agg #[.pointer (some ⟨3,t2,none⟩),.pointer (some a),.int .u64 150]]).run Tryz.prog W
  =.ok (.agg #[.pointer (some ⟨3,t1,none⟩),.pointer (some p),.int .u64 406]) W:=by
 rw[rlm];simp only[Sem.run_bind,h.parts27,Result.andThen];simp[ReflectliteValue.elem,loadVar,isAgg,underlying,h.u2,ha,Result.andThen,h.elemOf27,h.mk25]
theorem AsT.set25{tb:TypeId}(h:AsT t1 t2 tb)(ta b e:Addr)(old:Value)(W:World)(hb:W.cell? b=some (.pointer (some e)))(ht:W.cell? ta=some old)(hf:W.frozen? ta=false):
 (ReflectliteValue.set #[.agg #[.pointer (some ⟨3,t1,none⟩),.pointer (some ta),.int .u64 406],.agg #[.pointer (some ⟨3,t1,none⟩),.pointer (some b),.int .u64 150]]).run Tryz.prog W
  =.ok (.tuple #[]) (W.setCell ta (.pointer (some e))):=by
 rw[rls];simp only[Sem.run_bind,h.parts25a,h.parts25,Result.andThen];simp[ReflectliteValue.flagAddr,loadVar,isAgg,underlying,h.u1,hb,Result.andThen,h.direct25,h.size25,storeVar,Value.cells,storeCells,Addr.add];rw[run_store Tryz.prog W ta _ _ (by rfl)];simp[ht,hf]
theorem qgn{tb:TypeId}(h:AsT t1 t2 tb)(e t:Addr)(old:Value)(w:World)(hg:w.cell? ⟨0,0,none⟩=some (.iface 327 (.agg #[.pointer (some ⟨3,81,none⟩)])))(ht0:w.cell? t=some old)(hf0:w.frozen? t=false):
 Zc 126 #[.iface t1 (.pointer (some e)),.iface t2 (.pointer (some t))] w fun ev w'=>ev=.returned (.bool true)∧w'=((((w.alloc (.cells #[.pointer (some t)] t2)).alloc (.cells #[.pointer (some ⟨3,t2,none⟩),.pointer (some ⟨w.heap.size,0,none⟩),.int .u64 150] 284)).alloc (.cells #[.pointer (some ⟨3,t2,none⟩),.pointer (some ⟨w.heap.size,0,none⟩),.int .u64 150] 284)).alloc (.cells #[.pointer (some e)] t1)).setCell t (.pointer (some e)):=by
 have h6:=@run_callFunc_extern Tryz.prog 181 _ (fun args=>ReflectliteValue.unpack (args.getD 0 (.tuple #[]))) Tryz.func181 zk zk zk zk;have h7:=@run_callFunc_extern Tryz.prog 182 _ (ReflectliteValue.methodAny (ReflectliteValue.valueError "reflectlite.Value.Type" 0) (fun t _ _ _=>ReflectliteType.toType t)) Tryz.func182 zk zk zk zk;have h8:=@run_callFunc_extern Tryz.prog 183 _ (ReflectliteValue.method (ReflectliteValue.valueError "reflectlite.Value.IsNil" 0) ReflectliteValue.isNil) Tryz.func183 zk zk zk zk;have h27:=@run_callFunc_extern Tryz.prog 280 _ (ReflectliteType.abiMethod fun t=>do pure (.int .u8 (←Rtype.kind t))) Tryz.func280 zk zk zk zk;have h37:=@run_callFunc_extern Tryz.prog 294 _ (ReflectliteType.method ReflectliteType.elem) Tryz.func294 zk zk zk zk;have h38:=@run_callFunc_extern Tryz.prog 295 _ (ReflectliteType.relation "Implements" ReflectliteType.implements_) Tryz.func295 zk zk zk zk;have h10:=@run_callFunc_extern Tryz.prog 221 _ ReflectliteType.typeOf Tryz.func221 zk zk zk zk;have h35:=@run_callFunc_extern Tryz.prog 292 _ (ReflectliteType.relation "AssignableTo" ReflectliteType.assignableTo) Tryz.func292 zk zk zk zk;have h11:=@run_callFunc_extern Tryz.prog 222 _ (ReflectliteValue.method (ReflectliteValue.valueError "reflectlite.Value.Elem" 0) ReflectliteValue.elem) Tryz.func222 zk zk zk zk;have h12:=@run_callFunc_extern Tryz.prog 223 _ ReflectliteValue.set Tryz.func223 zk zk zk zk;have tO:=h.typeOf25;have mA:=As.methodAssignableTo;have a25:=h.assignable25;have v25:=h.valueOf25;have f6:=h.valueOf27;have f7:=h.type27;have mK:=As.methodKind;have mE:=As.methodElem;have mI:=As.methodImplements;have k27:=h.kind27;have k25:=h.kind25;have e27:=h.elem27;have i25:=h.implements25;have n8:=h.isNil27 ⟨w.heap.size,0,none⟩ t ((w.alloc (.cells #[.pointer (some t)] t2)).alloc (.cells #[.pointer (some ⟨3,t2,none⟩),.pointer (some ⟨w.heap.size,0,none⟩),.int .u64 150] 284)) zm;have hlt:0<w.heap.size:=by
  rcases Nat.eq_zero_or_pos w.heap.size with h0|h
  · simp[World.cell?,h0]at hg
  exact h
 have hg2:((w.alloc (.cells #[.pointer (some t)] t2)).alloc (.cells #[.pointer (some ⟨3,t2,none⟩),.pointer (some ⟨w.heap.size,0,none⟩),.int .u64 150] 284)).cell? ⟨0,0,none⟩=some (.iface 327 (.agg #[.pointer (some ⟨3,81,none⟩)])):=by
  rw[World.cell?_alloc_lt _ _ ⟨0,0,none⟩ zm,World.cell?_alloc_lt _ _ ⟨0,0,none⟩ hlt];exact hg
 have htl:t.block<w.heap.size:=by
  rcases Nat.lt_or_ge t.block w.heap.size with h|h
  · exact h
  simp[World.cell?,Array.getElem?_eq_none h]at ht0
 have el:=h.elemV27 ⟨w.heap.size,0,none⟩ t (((w.alloc (.cells #[.pointer (some t)] t2)).alloc (.cells #[.pointer (some ⟨3,t2,none⟩),.pointer (some ⟨w.heap.size,0,none⟩),.int .u64 150] 284)).alloc (.cells #[.pointer (some ⟨3,t2,none⟩),.pointer (some ⟨w.heap.size,0,none⟩),.int .u64 150] 284)) (by rw[World.cell?_alloc_lt _ _ ⟨w.heap.size,0,none⟩ (by simp;omega)];simp);have st:=h.set25 t ⟨w.heap.size+1+1+1,0,none⟩ e old ((((w.alloc (.cells #[.pointer (some t)] t2)).alloc (.cells #[.pointer (some ⟨3,t2,none⟩),.pointer (some ⟨w.heap.size,0,none⟩),.int .u64 150] 284)).alloc (.cells #[.pointer (some ⟨3,t2,none⟩),.pointer (some ⟨w.heap.size,0,none⟩),.int .u64 150] 284)).alloc (.cells #[.pointer (some e)] t1))
  (by rw[World.cell?_alloc_at _ _ _ _ zm];rfl)
  (by rw[World.cell?_alloc_lt _ _ t (by simp;omega),World.cell?_alloc_lt _ _ t (by simp;omega),World.cell?_alloc_lt _ _ t (by simp;omega),World.cell?_alloc_lt _ _ t htl];exact ht0)
  (by rw[World.frozen?_alloc_old _ _ t (by simp;omega),World.frozen?_alloc_old _ _ t (by simp;omega),World.frozen?_alloc_old _ _ t (by simp;omega),World.frozen?_alloc_old _ _ t (Nat.ne_of_lt htl)];exact hf0)
 go_enter Tryz.func126,Tryz.ntmps126
 go_wp2
 refine wp_loop_rounds 1 ?_;rw[rounds_succ];go_wp2
 go_ret
 exact⟨rfl,rfl⟩
theorem qgo(e t:Addr)(old:Value)(w:World)(hg:w.cell? ⟨0,0,none⟩=some (.iface 327 (.agg #[.pointer (some ⟨3,81,none⟩)])))(ht0:w.cell? t=some old)(hf0:w.frozen? t=false):
 Zc 126 #[.iface 237 (.pointer (some e)),.iface 243 (.pointer (some t))] w fun ev w'=>ev=.returned (.bool true)∧w'=((((w.alloc (.cells #[.pointer (some t)] 243)).alloc (.cells #[.pointer (some ⟨3,243,none⟩),.pointer (some ⟨w.heap.size,0,none⟩),.int .u64 150] 284)).alloc (.cells #[.pointer (some ⟨3,243,none⟩),.pointer (some ⟨w.heap.size,0,none⟩),.int .u64 150] 284)).alloc (.cells #[.pointer (some e)] 237)).setCell t (.pointer (some e)):=qgn (tb:=302) {} e t old w hg ht0 hf0
end
theorem qgp{α:Type}:∀(l:List α),l.length=32→∃a0 a1 a2 a3 a4 a5 a6 a7 a8 a9 a10 a11 a12 a13 a14 a15 a16 a17 a18 a19 a20 a21 a22 a23 a24 a25 a26 a27 a28 a29 a30 a31,l=[a0,a1,a2,a3,a4,a5,a6,a7,a8,a9,a10,a11,a12,a13,a14,a15,a16,a17,a18,a19,a20,a21,a22,a23,a24,a25,a26,a27,a28,a29,a30,a31]
 |[a0,a1,a2,a3,a4,a5,a6,a7,a8,a9,a10,a11,a12,a13,a14,a15,a16,a17,a18,a19,a20,a21,a22,a23,a24,a25,a26,a27,a28,a29,a30,a31],_=>⟨a0,a1,a2,a3,a4,a5,a6,a7,a8,a9,a10,a11,a12,a13,a14,a15,a16,a17,a18,a19,a20,a21,a22,a23,a24,a25,a26,a27,a28,a29,a30,a31,rfl⟩
theorem qgq(t:TypeId)(parts:Array (Nat × Operand))(ho:o.op=.build t parts)(cells:Array Value)(l:List (Nat × Value))
 (h:P.built t l=some cells)(hl:(parts.map fun(i,x)=>(i,a.eval x)).toList=l):(execOp a.eval o).run P w=.ok (.value (.agg cells)) w:=by
 subst hl;unfold execOp;simp only[ho,Sem.run_bind,run_build w t _ cells h,Result.andThen_ok,Sem.run_pure]
theorem qgr(id:Nat)(M:List Value)(h:M.length=32)(h1:∀v∈M,v.oneCell'=true):Tryz.prog.built 31 [(0,.int .u32 id),(2,.agg M.toArray)]=some (Value.int .u32 (id:Int)::.slice none 0 0::M).toArray:=by
 obtain⟨a0,a1,a2,a3,a4,a5,a6,a7,a8,a9,a10,a11,a12,a13,a14,a15,a16,a17,a18,a19,a20,a21,a22,a23,a24,a25,a26,a27,a28,a29,a30,a31,rfl⟩:=qgp M h;kernel_rfl
theorem qgs(id:Nat)(A:Option Addr)(n c:Nat)(M:List Value)(h:M.length=32):Tryz.prog.built 31 [(0,.int .u32 id),(1,.slice A n c),(2,.agg M.toArray)]=some (Value.int .u32 (id:Int)::.slice A n c::M).toArray:=by
 obtain⟨a0,a1,a2,a3,a4,a5,a6,a7,a8,a9,a10,a11,a12,a13,a14,a15,a16,a17,a18,a19,a20,a21,a22,a23,a24,a25,a26,a27,a28,a29,a30,a31,rfl⟩:=qgp M h;kernel_rfl
abbrev Tok:=Nat × List (Int × Nat) × List Nat
def qgt:Tok:=(0,[],List.replicate 32 0)
theorem qgu{fn:Func}{t s:Tmp}{tmps:Array Value}(h:fn.results=#[.cell t ty,.tmp s])(ht:tmps.getD t undef=.pointer (some ⟨g,0,none⟩))
 (hl:(loadVar ty ⟨g,0,none⟩).run P w=.ok v w):(results fn tmps).run P w=.ok (.tuple #[v,tmps.getD s undef]) w:=by
 unfold results;rw[h];simp only[Array.getD_eq_getD_getElem?]at ht;simp[ht,asAddr,hl,Sem.run_pure]
theorem qgv(s x:Operand)
 (ho:o.op=.call {callee:=.builtin .append,args:=#[s,x],argTypes:=#[27,27]})
 (base:Nat)(v:Value)(l:List (Int × Nat))(hs:a.eval s=v)(hown:OwnC w base v l)(A:Option Addr)(m c:Nat)(news:List (Int × Nat))(hx:a.eval x=.slice A m c)(hr:Reads w w.heap.size 2 A m (cavv news))
 (hlen:l.length+m≤8796093022208)(hbase:base≤w.heap.size)
 (h:∀v' w',OwnC w' base v' (l++news)→Below base w w'→w.grownBy w' v.ownBlock→K (a.put o.dst v') w'):o.wp Tryz.prog a w K Q:=by
 obtain⟨i0,hi0,hz0,hz1,hz2⟩:=info_parts Tryz.cav_info;have hm:news.length=m:=by have:=hr.1;rw[qed]at this;omega
 refine qa6 (P:=Tryz.prog) w s x _ ho base 132 i0 _ 2 16 Tryz.underlying27 hi0 hz0 hz1 hz2 rfl zo v l.length (cavv l) hs hown w.heap.size A m c (cavv news) hx hr (qeb _) (by simp only[maxLen];omega) zo hbase ?_;intro v' w' h1 h2 h3;refine h v' w' ?_ ?_ h2
 · unfold OwnC
   rw[qec,tA6,hm];exact h1
 exact qae (tA5 _ _) hown h2 (tA4 _) hbase
theorem qgw{o:Nat}{t:TypeId}{L:List Value}(h:Blk w g t L.toArray)(hn:xs.length=n)(hx:∀j u,xs[j]? =some u→L[o+j]? =some u):Reads w w.heap.size 1 (some ⟨g,o,none⟩) n xs:=by
 subst hn;refine⟨by simp,fun _=>⟨_,rfl,h.lt,fun j u hu=>?_⟩⟩;rw[Addr.add_mid,h.cell];simpa using hx j u hu
theorem qgx{L:List Value}(h:Blk w g 31 L.toArray)(hl:L.length=34):(loadVar 31 ⟨g,0,none⟩).run Tryz.prog w=.ok (.agg L.toArray) w:=
 run_loadVar_mid _ _ 0 _ L _ (qap h 0 L zjq) Tryz.underlying31 rfl (by rw[hl];exact Tryz.tok_info)
def qgy:List Value:=tokv 0 (.slice none 0 0) (List.replicate 32 0)
theorem qgz:qgy.toArray.all (·.oneCell')=true:=all_oneCell_toArray (qeg 0 (.slice none 0 0) rfl (List.replicate 32 0))
theorem qh0:(Tryz.prog.info? 31).map (·.size)=some qgy.toArray.size:=by kernel_rfl
theorem qh1:(zLT:Array Value).size=qgy.toArray.size:=rfl
def Tok.Ok (t:Tok):Prop:=t.1<4294967296∧(∀c∈t.2.1,c.2<4294967296)∧t.2.2.length=32∧∀x∈t.2.2,x<256
theorem Blk.setRow_far{t:TypeId}{cs:Array Value}(h:Blk w k t cs)(hne:k≠g)(c':Array Value):Blk (w.setRow g c') k t cs:=
 h.grown (qam w g c') (fun e=>by injection e with e;exact hne e)
def qh2 (bs:List Nat):Nat→RSt→List (Int × Nat)→RSt × List (Int × Nat)
 |0,s,l=>(s,l)
 |n+1,s,l=>
  if qd8 ((rNum bs s 1).2:Int) then qh2 bs n (rNum bs (rNum bs s 1).1 4).1 (l++[(((rNum bs s 1).2:Int),(rNum bs (rNum bs s 1).1 4).2)])
  else(qg5 (rNum bs s 1).1 (rNum bs s 1).1.1 12,l)
def qh3 (bs:List Nat)(s:RSt)(n:Nat):RSt × Nat:=if 4<n then(qg5 s s.1 4,0) else(s,n)
def decT (bs:List Nat)(s:RSt):RSt × Tok:=
 let a:=rNum bs s 4
 let b:=rNum bs a.1 1
 let c:=qh3 bs b.1 b.2
 let d:=qh2 bs c.2 c.1 []
 let f:=rDig bs d.1
 (f.1,(a.2,d.2,f.2))
def qh4 (bs:List Nat):Option (Nat × Nat) × Tok:=match rEnd bs (decT bs (0,none)).1 with
 |none=>(none,(decT bs (0,none)).2)
 |some x=>(some x,qgt)
theorem adv(h:Below B w w1)(k:w1.grownBy w2 (some g))(hB:B≤g)(hg:g<w1.heap.size):Below B w w2:=h.trans (qg7 k hB hg)
theorem qh5:Tryz.prog.built 31 []=some qgy.toArray:=by kernel_rfl
theorem qh6(h tb:Nat)(old:Value)(w:World)(hg:w.cell? ⟨0,0,none⟩=some (.iface 327 (.agg #[.pointer (some ⟨3,81,none⟩)])))(ht:Blk w tb 237 #[old]):
 Zc 126 #[.iface 237 (.pointer (some ⟨h,0,none⟩)),.iface 243 (.pointer (some ⟨tb,0,none⟩))] w fun e w'=>e=.returned (.bool true)∧Blk w' tb 237 #[.pointer (some ⟨h,0,none⟩)]∧w.grownBy w' (some tb):=by
 refine(qgo ⟨h,0,none⟩ ⟨tb,0,none⟩ old w hg (by simpa using ht.cell 0) (ht.frozen 0)).mono ?_;rintro e w' ⟨rfl,rfl⟩;refine⟨rfl,?_,qab (qaa (qaa (qaa (qaa (tB9 _ _) _) _) _) _) (.inl rfl) _⟩;have:=((((ht.alloc (.cells #[.pointer (some ⟨tb,0,none⟩)] 243)).alloc (.cells #[.pointer (some ⟨3,243,none⟩),.pointer (some ⟨w.heap.size,0,none⟩),.int .u64 150] 284)).alloc (.cells #[.pointer (some ⟨3,243,none⟩),.pointer (some ⟨w.heap.size,0,none⟩),.int .u64 150] 284)).alloc (.cells #[.pointer (some ⟨h,0,none⟩)] 237)).set_ 0 (.pointer (some ⟨h,0,none⟩));simpa using this
theorem qh7(id:Nat)(v:Value)(t tag:List Nat)(h:t.length=32)(h':tag.length=32):(tokv id v t).take 2++(byv tag++(tokv id v t).drop (2+(byv tag).length))=tokv id v tag:=by
 rw[qat,h',List.drop_eq_nil_of_le (by rw[qdf _ _ _ h];omega)];simp[tokv]
theorem qh8(id:Nat):Tryz.prog.built 31 [(0,.int .u32 id)]=some (tokv id (.slice none 0 0) (List.replicate 32 0)).toArray:=by kernel_rfl
theorem qh9(bs:List Nat)(A:Option Addr)(n c:Nat)(w:World)(hr:Reads w w.heap.size 1 A n (byv bs))(hn:n≤140737488355328)(hb:∀x∈bs,x<256)(hE:w.cell? ⟨0,0,none⟩=some (.iface 327 (.agg #[.pointer (some ⟨3,81,none⟩)]))):
 Zc 74 #[.slice A n c] w fun e w'=>∃v r,e=.returned (.tuple #[.agg (tokv (qh4 bs).2.1 v (qh4 bs).2.2.2).toArray,r])∧OwnC w' w.heap.size v (qh4 bs).2.2.1∧RErr w' w.heap.size r (qh4 bs).1∧Zb w w':=by
 have HB:=zh1 hb;have r0:=Blk.new w 31 zLT;obtain⟨HE,R0,HR⟩:=zh3 hE r0 (hr.laid (.cells zLT 31));clear hE r0 hr;go_enter Tryz.func74,Tryz.ntmps74
 go_wp2_with fail
 refine(qg8 bs A n c _ HR.o hn).mono ?_;rintro e w1 ⟨g,rfl,h1,b1⟩;go_wp2_with fail
 obtain⟨B,hB⟩:=xeq ((w.alloc (.cells zLT 31)).heap.size);have hB1:B=w.heap.size+1:=by rw[←hB,qar]
 have r1:=R0.below b1 R0.lt;have bl1:Zb w w1:=((tA5 _ _).alloc (tA4 _) _).trans (b1.mono (by rw[hB];omega));rw[hB]at h1;clear b1 hB;refine(qgh B g bs (0,none) 4 w1 h1 HB.o).mono ?_;rintro e w2 ⟨rfl,h2,g2⟩;have hBg:=h1.le;have bl2:=adv bl1 g2 zo h1.lt;have r2:=r1.grown g2 (by simp;omega);have a4:=qgg bs (0,none) 4 HB.o;have e4:qb0 4=4:=rfl;rw[e4]at h2 ⊢;clear e4;obtain⟨ra,hra⟩:=xeq (rNum bs (0,none) 4);rw[hra]at h2 a4 ⊢;obtain⟨s2,id⟩:=ra;dsimp only at h2 a4 ⊢;have hid:id<4294967296:=Nat.lt_of_lt_of_eq a4 zdc;have u0:IntKind.u32.wrap (id:Int)=id:=by rw[IntKind.wrap_u32];omega
 obtain⟨RA,H2,A5,R2⟩:=zh4 hra h2 bl2 r2;clear h1 h2 g2 bl1 bl2 r1 r2 hra a4;have bD:=qh8 id;have lD:=qdf id (.slice none 0 0) (List.replicate 32 0) zm;have oD:=qeg id (.slice none 0 0) rfl (List.replicate 32 0);obtain⟨D,hD⟩:=xeq (tokv id (.slice none 0 0) (List.replicate 32 0));rw[hD]at bD lD oD;obtain⟨I2,Z2,BD,LD,OD,HD⟩:=zh6 (show (Tryz.prog.info? 31).map (·.size)=some D.toArray.size by rw[tB6,lD];exact Tryz.tok_info) (Blk.new w2 31 zLT) bD lD oD hD;clear bD lD oD hD;go_upto_region 3 with(first
  |(refine qbj rfl ⟨.agg D.toArray,qgq 31 _ rfl _ _ BD.o (by simp[Act.eval]),?_⟩)
  |(refine wpList_store_row rfl 31 (.tmp 5) (.tmp 15) rfl w2.heap.size D.toArray rfl rfl 31 _ Z2.o I2.o (by simp[LD.o]) (by simpa using OD.o) ?_))
 obtain⟨w3,hw3⟩:=eqx ((w2.alloc (.cells zLT 31)).setRow w2.heap.size D.toArray);rw[←hw3];obtain⟨G5,hG5⟩:=xeq w2.heap.size;have t3:Blk w3 G5 31 D.toArray:=by rw[hw3,←hG5];exact Z2.setRow _
 have b23:Zb w2 w3:=by rw[hw3];exact below_setRow ((tA5 _ _).alloc (tA4 _) _) (tA4 _) _
 have h3:=H2.below b23;have r3:=R2.below b23 R2.lt;have bl3:Zb w w3:=A5.trans (b23.mono A5.size);have hgG:g<G5:=by rw[←hG5];exact H2.lt
 rw[hG5];clear hw3 b23 hG5 Z2 H2 R2 A5;go_wp2_with fail
 refine(qgh B g bs s2 1 w3 h3 HB.o).mono ?_;rintro e w4 ⟨rfl,h4,g4⟩;have bl4:=adv bl3 g4 zo h3.lt;have r4:=r3.grown g4 (by simp;omega);have t4:=t3.grown g4 (by simp;omega);have m4:=qgg bs s2 1 HB.o;have e1:qb0 1=1:=rfl;rw[e1]at h4 ⊢;clear e1;obtain⟨rb,hrb⟩:=xeq (rNum bs s2 1);rw[hrb]at h4 m4 ⊢;obtain⟨s4,m⟩:=rb;dsimp only at h4 m4 ⊢;have m4':m<256:=Nat.lt_of_lt_of_eq m4 zdc;obtain⟨RB,H4,A6,R4,T4⟩:=zh5 hrb h4 bl4 r4 t4;clear h3 h4 g4 bl3 bl4 r3 r4 t3 t4 hrb m4;go_upto_if 19 with(fail)
 obtain⟨⟨s5,m'⟩,hhd⟩:∃x,qh3 bs s4 m=x:=⟨_,rfl⟩;have A7:=zh1 hhd;have hm':m'≤4:=by unfold qh3 at hhd;split at hhd<;>(injection hhd;omega)
 clear hhd;go_cut [6] (fun s6 wx=>s6=.int .u64 m'∧Hid (Rd wx B g bs s5)∧Hid (Blk wx G5 31 D.toArray)∧Hid (Blk wx w.heap.size 31 zLT)∧Hid (Zb w wx))
 case first=>
  by_cases hm:4<m
  ·
   have hmi:(4:Int)<m:=zo;have hd:=A7.o;rw[qh3,if_pos hm]at hd;injection hd with hd1 hd2;subst hd1 hd2;go_wp2_with fail
   refine(qga B g bs s4 4 w4 H4.o zdc).mono ?_;rintro e w5 ⟨rfl,h5,g5⟩;obtain⟨AI,AJ,AK,H5⟩:=zh4 (adv A6.o g5 zo H4.lt) (R4.grown g5 (by simp;omega)) (T4.grown g5 (by simp;omega)) h5;clear h5 g5;go_wp2
   go_meet
   case rel=>exact⟨rfl,H5.o,AK.o,AJ.o,AI.o⟩
  have hmi:¬(4:Int)<m:=zo;have hd:=A7.o;rw[qh3,if_neg hm]at hd;injection hd with hd1 hd2;subst hd1 hd2;go_wp2
  go_meet
  case rel=>exact⟨rfl,H4.o,T4.o,R4.o,A6.o⟩
 case rest=>
  obtain⟨rfl,H5,T5,R5,A8⟩:=hcut;clear H4 T4 R4 A6;go_upto_block 0 with fail
  go_cut [] (fun wx=>∃(s:RSt) (l:List (Int × Nat)) (v:Value),Hid (qh2 bs m' s5 []=(s,l))∧l.length≤4∧Hid (Rd wx B g bs s)∧Hid (OwnC wx w.heap.size v l)∧Hid (Blk wx G5 31 (tokv id v (List.replicate 32 0)).toArray)∧Hid (Blk wx w.heap.size 31 zLT)∧Hid (Zb w wx))
  case first=>
   go_wp2_with fail
   go_loopw [23] (fun i wr=>∃(j:Nat) (s:RSt) (l:List (Int × Nat)) (v:Value),j≤m'∧i=.int .u64 j∧l.length≤j∧Hid (qh2 bs (m' - j) s l=qh2 bs m' s5 [])∧Hid (Rd wr B g bs s)∧Hid (OwnC wr w.heap.size v l)∧Hid (Blk wr G5 31 (tokv id v (List.replicate 32 0)).toArray)∧Hid (Blk wr w.heap.size 31 zLT)∧Hid (Zb w wr)) (fun i _=>m' - (intOf i).toNat)
   case atStart=>exact⟨0,s5,[],.slice none 0 0,by omega,rfl,by simp,rfl,H5.o,OwnC.nil _ _,by rw[HD.o];exact T5.o,R5.o,A8.o⟩
   case round=>
    clear H5 T5 R5 A8;obtain⟨j,s,l,v,hj,rfl,hl,hdec,hrd,hov,htb,hrb,hbl⟩:=hrel;by_cases hjm:j<m'
    ·
     have qk:(j:Int)<m':=zo;go_wp2_with fail
     refine(qgh B g bs s 1 wr hrd.o HB.o).mono ?_;rintro e wa ⟨rfl,ha,ga⟩;have hkl:=qgg bs s 1 HB.o;have e1:qb0 1=1:=rfl;rw[e1]at ha ⊢;clear e1;obtain⟨⟨sa,k⟩,hka⟩:∃x,rNum bs s 1=x:=⟨_,rfl⟩;rw[hka]at ha hkl ⊢;dsimp only at ha hkl ⊢;have hk256:k<256:=Nat.lt_of_lt_of_eq hkl zdc;have hki:IntKind.i64.wrap (k:Int)=k:=tBb _ zo;obtain⟨BLa,Ra,Ta⟩:=zh3 (adv hbl.o ga zo hrd.lt) (hrb.grown ga (by simp;omega)) (htb.grown ga (by simp;omega));have Oa:=zh1 (show OwnC wa w.heap.size v l from tB3 hov.o ga (.inr (fun e=>by
      obtain⟨A',n',c',p',hgb,-⟩:=hrd.o;exact qa3 hov.o hgb zdc e)))
     obtain⟨Ha,KA⟩:=zh2 ha hka;clear ha ga hkl hka hrd hov htb hrb hbl;by_cases hkb:qd8 (k:Int)=true
     ·
      go_wp2_with fail
      refine(qdc k _).mono ?_;rintro e _ ⟨rfl,rfl⟩;rw[hkb];go_upto_region 12 with(fail)
      have t1:=Ta.cell 1;rw[show (tokv id v (List.replicate 32 0)).toArray[1]? =some v from rfl]at t1;have b4:=qgg bs sa 4 HB.o;have RN:=fun w h=>qgh B g bs sa 4 w h HB.o
      have e4:qb0 4=4:=rfl;rw[e4]at RN;clear e4;obtain⟨⟨sb,N⟩,hkb4⟩:∃x,rNum bs sa 4=x:=⟨_,rfl⟩;simp only[hkb4,Zb]at RN b4;have hN:N<4294967296:=Nat.lt_of_lt_of_eq b4 zdc;have hNi:IntKind.u32.wrap (N:Int)=N:=by rw[IntKind.wrap_u32];omega
      obtain⟨KB,AL⟩:=zh2 hkb4 RN;clear b4 hkb4 RN;have hlt:G5<wa.heap.size:=Ta.lt;obtain⟨S,HS⟩:=zS fun w'=>w'.cell? ⟨G5,1,none⟩=some v
      refine zrs S 10 (zq 0 4 [(4,true),(5,false),(6,false),(7,true),(8,true),(9,false),(10,true)]) ((HS.o _).mpr t1) ?_;repeat(refine zrt0 ?_)
      refine zw ?_;go_simp;refine(AL.o wa.drew Ha.o).mono ?_;rintro e wb ⟨rfl,hbb,gb⟩;have tb:=(show Blk wa.drew G5 31 _ from Ta.o).grown gb (by simp;omega);have rb:=(show Blk wa.drew w.heap.size 31 _ from Ra.o).grown gb (by simp;omega);have tb1:=tb.cell 1;rw[show (tokv id v (List.replicate 32 0)).toArray[1]? =some v from rfl]at tb1;have hgl:g<wa.heap.size:=Ha.lt;have blb:=adv (show Zb w wa.drew from BLa.drew) gb zo hgl;have ob:OwnC wb w.heap.size v l:=tB3 (show OwnC wa.drew w.heap.size v l from Oa.o) gb (.inr (fun e=>by
       obtain⟨A',n',c',p',hgb,-⟩:=Ha.o;exact qa3 Oa.o hgb zdc e))
      refine⟨(HS.o _).mpr tb1,zput ?_⟩;repeat(refine zrt0 ?_)
      refine zw ?_;go_simp;refine⟨(HS.o _).mpr (qaj tb1 _),zput ?_⟩;have hbB:=blb.size;have rc:Reads (wb.alloc (.cells #[.int .i64 (k:Int),.int .u32 (N:Int)] 132)) (wb.alloc (.cells #[.int .i64 (k:Int),.int .u32 (N:Int)] 132)).heap.size 2 (some ⟨wb.heap.size,0,none⟩) 1 (cavv [((k:Int),N)]):=by
       have:=Reads.new wb 132 (cavv [((k:Int),N)]) 2 1 (by rw[qed];rfl);rw[qar];exact this
      refine zw ?_;refine qgv (.tmp 34) (.tmp 40) rfl w.heap.size v l rfl (ob.alloc _) _ 1 1 [((k:Int),N)] rfl rc zo (by rw[qar];omega) ?_;intro v9 wd od bd gd;obtain⟨A9,n9,c9,rfl,-,-,-,-⟩:=od.sl;have td:=(tb.alloc (.cells #[.int .i64 (k:Int),.int .u32 (N:Int)] 132)).grown gd (Ne.symm (qa3 ob tb zdc));have td1:=td.cell 1;rw[show (tokv id v (List.replicate 32 0)).toArray[1]? =some v from rfl]at td1;refine⟨fun _=>(HS.o _).mpr td1,zput ?_⟩;repeat(refine zrt0 ?_)
      have td1f:=td.frozen 1;have hd:=(hbb.below ((tA5 _ _).alloc (tA4 _) (.cells #[.int .i64 (k:Int),.int .u32 (N:Int)] 132))).grown (ob.alloc _) gd;have rd:=(rb.alloc (.cells #[.int .i64 (k:Int),.int .u32 (N:Int)] 132)).grown gd (Ne.symm (qa3 ob rb zdc));have bld:Zb w wd:=(qah blb _).trans bd;have ne1:=qa3 od td zdc;refine zw ?_;go_simp;refine qbf ?_;have AM:=zh1 (hd.kept (k:=G5) (tB9 _ _ |> fun q=>qab (p:=⟨G5,1,none⟩) q (.inl rfl) (.slice A9 n9 c9)) td zdc zdc zo);have AN:Hid (Blk (wd.setCell ⟨G5,1,none⟩ (.slice A9 n9 c9)) G5 31 (tokv id (.slice A9 n9 c9) (List.replicate 32 0)).toArray):=by
       have:=td.set_ 1 (.slice A9 n9 c9);rw[show (tokv id v (List.replicate 32 0)).toArray.setIfInBounds 1 (.slice A9 n9 c9)=(tokv id (.slice A9 n9 c9) (List.replicate 32 0)).toArray by simp[tokv]]at this;exact this
      obtain⟨AO,AP,AQ⟩:=zh3 (rd.far (p:=⟨G5,1,none⟩) (by show w.heap.size≠G5;omega) (.slice A9 n9 c9)) (show OwnC (wd.setCell ⟨G5,1,none⟩ (.slice A9 n9 c9)) w.heap.size (.slice A9 n9 c9) (l++[((k:Int),N)]) from qal od (p:=⟨G5,1,none⟩) ne1 (.slice A9 n9 c9)) (bld.setCell (p:=⟨G5,1,none⟩) (by show w.heap.size≤G5;omega) (.slice A9 n9 c9));have A2:Hid (qh2 bs (m' - (j+1)) sb (l++[((k:Int),N)])=qh2 bs m' s5 []):=by
       show _=_;rw[←hdec.o,show m' - j=(m' - (j+1))+1 by omega];show _=(if qd8 ((rNum bs s 1).2:Int) then _ else _);rw[KA.o,if_pos hkb,KB.o]
      clear hd rd bld ne1 td td1 td1f tb tb1 rb blb ob od bd gd hbb gb rc Ha Oa Ta Ra BLa t1;go_wp2
      go_roundw
      case rel=>exact⟨j+1,sb,l++[((k:Int),N)],(.slice A9 n9 c9),by omega,by go_num,by rw[tA6];simp;omega,A2.o,AM.o,AP.o,AN.o,AO.o,AQ.o⟩
      case measure=>simp[intOf];omega
     have hkb':qd8 (k:Int)=false:=by simpa using hkb
     go_wp2_with fail
     refine(qdc k _).mono ?_;rintro e _ ⟨rfl,rfl⟩;rw[hkb'];go_wp2_with fail
     refine(qga B g bs sa 12 wa Ha.o zdc).mono ?_;rintro e wb ⟨rfl,hbb,gb⟩;obtain⟨BLb,Rb,Tb⟩:=zh3 (adv BLa.o gb zo Ha.lt) (Ra.grown gb (by simp;omega)) (Ta.grown gb (by simp;omega));have Ob:=zh1 (show OwnC wb w.heap.size v l from tB3 Oa.o gb (.inr (fun e=>by
      obtain⟨A',n',c',p',hgb,-⟩:=Ha.o;exact qa3 Oa.o hgb zdc e)))
     have Hb:=zh1 hbb;have A2:Hid (qh2 bs m' s5 []=(qg5 sa sa.1 12,l)):=by
      rw[←hdec.o,show m' - j=(m' - j - 1)+1 by omega];show (if qd8 ((rNum bs s 1).2:Int) then _ else _)=_;rw[KA.o,if_neg (by simp[hkb'])]
     clear hbb gb Ha Oa Ta Ra BLa;go_wp2
     go_meet
     case rel=>exact⟨qg5 sa sa.1 12,l,v,A2.o,by omega,Hb.o,Ob.o,Tb.o,Rb.o,BLb.o⟩
    have qk:¬(j:Int)<m':=zo;have hd:=hdec.o;rw[show m' - j=0 by omega]at hd;have A2:=zh1 hd.symm;clear hd;go_wp2
    go_meet
    case rel=>exact⟨s,l,v,A2.o,by omega,hrd.o,hov.o,htb.o,hrb.o,hbl.o⟩
  case rest=>
   obtain⟨s,l,v,hdec,hl4,H6,O6,T6,R6,AD⟩:=hcut;clear H5 T5 R5 A8;go_wp2_with fail
   refine(qgk B g bs s wc H6.o).mono ?_;rintro e w7 ⟨rfl,h7,g7⟩;have ltag:=qgi bs s;obtain⟨⟨s7,tag⟩,hdg⟩:∃x,rDig bs s=x:=⟨_,rfl⟩;rw[hdg]at h7 ltag ⊢;dsimp only at h7 ltag ⊢;have DG:=zh1 hdg;have t7:=T6.grown g7 (by simp;omega);have r7:=R6.grown g7 (by simp;omega);have bl7:=adv AD.o g7 zo H6.lt;have o7:OwnC w7 w.heap.size v l:=tB3 O6.o g7 (.inr (fun e=>by
    obtain⟨A',n',c',p',hgb,-⟩:=H6.o;exact qa3 O6.o hgb zdc e))
   have htt:=qh7 id v (List.replicate 32 0) tag zm ltag;have lV:(byv tag).length=32:=by rw[qat];exact ltag
   have oV:=qau tag;obtain⟨TH,SC⟩:=zh2 (qek t7 2 32 (by rw[qdf _ _ _ zm];decide)) (Blk.setCells (byv tag) 2 w7 _ t7 (by rw[qdf _ _ _ zm,lV];decide));rw[htt]at SC;obtain⟨V,hV⟩:=xeq (byv tag);rw[hV]at SC lV oV ⊢;obtain⟨IV,TH',OV⟩:=zh3 (show (Tryz.prog.info? 29).map (·.size)=some V.toArray.size by rw[tB6,lV];exact Tryz.dig_info) (show w7.there G5 2 V.toArray.size by rw[tB6,lV];exact TH.o) (all_oneCell_toArray oV);have gsc:=qei G5 V 2 w7;obtain⟨H7,O7,R7,A3⟩:=zh4 (h7.kept gsc t7 zdc zdc zo) (show OwnC (w7.setCells G5 2 V) w.heap.size v l from tB3 o7 gsc (.inr (qa3 o7 t7 zdc))) (r7.grown gsc (by simp;omega)) (adv bl7 gsc zo t7.lt);clear h7 g7 t7 r7 bl7 o7 hdg htt lV oV hV TH gsc H6 O6 T6 R6 AD;go_upto_region 15 with(refine wpList_store_mid rfl 29 (.tmp 46) (.tmp 45) rfl G5 2 V.toArray rfl rfl TH'.o IV.o OV.o ?_)
   obtain⟨w8,hw8⟩:=eqx (w7.setCells G5 2 V);rw[←hw8]at SC H7 O7 R7 A3 ⊢;clear hw8;have T8:=zh1 SC.o;go_wp2_with fail
   obtain⟨w9,hw9⟩:=eqx (w8.alloc (.cells #[.pointer none] 237));rw[←hw9];have p9:=zNa hw9;have b89:=zMa hw9;obtain⟨P8,hP8⟩:=xeq w8.heap.size;rw[hP8]at p9 ⊢;refine(qgl B g bs s7 w9 (H7.below b89)).mono ?_;rintro e w10 ⟨r,rfl,her,b910⟩;have b810:=b89.trans (b910.mono b89.size);have t10:=T8.below b810 T8.lt;have r10:=R7.below b810 R7.lt;have p10:=p9.below b910 p9.lt;have o10:=O7.kept b810;have bl10:=A3.trans (b810.mono A3.size);have AE:Hid (decT bs (0,none)=(s7,(id,l,tag))):=by
    show _=_;unfold decT;simp only[RA.o,RB.o,A7.o,hdec.o,DG.o]
   obtain⟨AA,AF,A4,AB,A0⟩:=zh5 p10 t10 r10 o10 bl10;have hPG:P8≠w.heap.size∧P8≠G5∧w.heap.size<P8:=by
    have:=R7.lt;have:=SC.lt;omega
   have AG:=zh1 (show w.heap.size<w9.heap.size by have:=p9.lt;omega);clear b810 t10 r10 p10 o10 bl10 b89 hP8 hw9 p9 SC T8 H7 O7 R7 A3 DG;cases hend:rEnd bs s7 with
   |none=>
    rw[hend]at her;have er:r=.nilIface:=her;subst er;have A1:Hid (qh4 bs=(none,(id,l,tag))):=by
     show _=_;unfold qh4;rw[AE.o,hend]
    clear hend her;have lT:=qdf id v tag ltag;obtain⟨Av,nv,cv,rfl,-,-,-,-⟩:=AB.sl;have oT:=qeg id (.slice Av nv cv) rfl tag;obtain⟨T,hT⟩:=xeq (tokv id (.slice Av nv cv) tag);rw[hT]at AF lT oT;obtain⟨RG,IT,IT',LT,OT,ET⟩:=zh6 (qap AF.o 0 T zjq) (zI 31 lT) (show (Tryz.prog.info? 31).map (·.size)=some T.toArray.size by rw[tB6,lT];exact Tryz.tok_info) lT oT hT;clear lT oT hT;go_wp2_with fail
    refine(qgm _ w10).mono ?_;rintro e _ ⟨rfl,rfl⟩;go_wp2_with (first
     |(refine zld RG.o zu31 IT.o ?_)
     |(refine wpList_store_row rfl 31 (.tmp 2) (.tmp 55) rfl w.heap.size T.toArray rfl rfl 31 _ A4.o IT'.o (by simp[LT.o]) (by simpa using OT.o) ?_))
    have z:=A4.setRow T.toArray;refine bodyPost_ret (qgu rfl rfl (qgx z LT.o)) rfl ⟨.slice Av nv cv,.nilIface,?_,?_,?_,?_⟩
    · rw[A1.o,←ET.o]
      rfl
    · rw[A1.o]
      exact tB3 AB.o (qam _ _ _) (.inr (qa3 AB.o A4.o zdc))
    · rw[A1.o]
      rfl
    exact below_setRow A0.o (tA4 _) _
   |some x=>
    rw[hend]at her;obtain⟨hh,rfl,hhB,hkb⟩:=her;have A1:Hid (qh4 bs=(some x,qgt)):=by
     show _=_;unfold qh4;rw[AE.o,hend]
    have hg10:=(A0.cell (p:=⟨0,0,none⟩) (World.block_lt_of_cell? _ _ HE.o)).trans HE.o;obtain⟨HK,AS⟩:=zh2 hkb (qh6 hh P8 (.pointer none) w10 hg10 AA.o);clear hend hkb hg10;go_wp2_with fail
    refine AS.o.mono ?_;rintro e w11 ⟨rfl,p11,g11⟩;have r11:=A4.grown g11 (by simp;omega);have k11:=HK.grown g11 (by
     intro e;injection e with e;subst e;exact HK.ne_ AA.o zdc rfl)
    have bl11:=adv A0.o g11 zo AA.lt;have p11c:=p11.cell 0;rw[show (#[Value.pointer (some ⟨hh,0,none⟩)]:Array Value)[0]? =some (.pointer (some ⟨hh,0,none⟩)) from rfl]at p11c;obtain⟨AH,AR,AC,AT⟩:=zh4 r11 k11 bl11 p11;clear p11 g11 r11 k11 bl11;go_wp2_with fail
    obtain⟨S,HS⟩:=zS fun w'=>w'.cell? ⟨P8,0,none⟩=some (.pointer (some ⟨hh,0,none⟩))
    refine zrs S 5 (zq 0 3 [(3,true),(4,false)]) ((HS.o _).mpr p11c) ?_;refine qbg rfl rfl ⟨.agg qgy.toArray,fun w1 hS=>qgq 31 _ rfl _ _ qh5 (by simp[Act.eval]),?_⟩;refine zP ?_;repeat(refine zrt0 ?_)
    refine zw ?_;refine wp_store_row 31 (.tmp 2) (.tmp 52) rfl w.heap.size qgy.toArray rfl rfl 31 _ AH.o qh0 qh1 qgz ?_;have z:=AH.setRow qgy.toArray;have kz:=AR.setRow_far (g:=w.heap.size) (by have:=AG.o;omega) qgy.toArray;have pz:=(AT.setRow_far (g:=w.heap.size) zo qgy.toArray).cell 0;rw[show (#[Value.pointer (some ⟨hh,0,none⟩)]:Array Value)[0]? =some (.pointer (some ⟨hh,0,none⟩)) from rfl]at pz;refine⟨fun _=>(HS.o _).mpr pz,zput ?_⟩;repeat(refine zrt0 ?_)
    refine qbf ?_;go_wp2_with fail
    refine bodyPost_ret (qgu rfl rfl (qgx z rfl)) rfl ⟨.slice none 0 0,.iface 237 (.pointer (some ⟨hh,0,none⟩)),?_,?_,?_,?_⟩
    · rw[A1.o]
      rfl
    · rw[A1.o]
      exact OwnC.nil _ _
    · rw[A1.o]
      exact⟨hh,rfl,tB1 (Nat.le_of_lt AG.o) hhB,kz⟩
    exact below_setRow AC.drew (tA4 _) _
theorem qha(k:Int)(w:World):
 Zc 162 #[.int .i64 k] w fun e w'=>e=.returned (.int .i64 (qb0 k))∧w=w':=by
 by_cases h1:k<1
 · have H:Hid (((qb0 k:Nat):Int)=1):=by unfold Hid qb0;omega
   go_enter Tryz.func162,Tryz.ntmps162
   go_wp2
   go_ret
   exact⟨qcz H.symm,rfl⟩
 by_cases h8:8<k
 · have H:Hid (((qb0 k:Nat):Int)=8):=by unfold Hid qb0;omega
   go_enter Tryz.func162,Tryz.ntmps162
   go_wp2
   go_ret
   exact⟨qcz H.symm,rfl⟩
 have H:Hid (((qb0 k:Nat):Int)=k):=by unfold Hid qb0;omega
 go_enter Tryz.func162,Tryz.ntmps162
 go_wp2
 go_ret
 exact⟨qcz H.symm,rfl⟩
theorem qhb(A:Option Addr)(L c n:Nat)(k:Int)(bs:List Nat)(w:World)(hr:Reads w w.heap.size 1 A L (byv bs))(hl:bs.length≤4294967296)(hn:n<18446744073709551616):
 Zc 99 #[.slice A L c,.int .u64 n,.int .i64 k] w fun e w'=>∃v,e=.returned v∧OwnB w' w.heap.size v (bs++be n (qb0 k))∧Zb w w':=by
 obtain⟨hs1,hs8⟩:=qb1 k;have hr0:=hr.laid (.cells #[] 5);have hL:=qb4 hr;rw[hL]at hl;have HL:=zh1 hL;clear hL hr;go_enter Tryz.func99,Tryz.ntmps99
 go_wp2_with (at_builtin;refine qe2 rfl (.tmp 9) (.tmp 10) rfl w.heap.size _ [] rfl (OwnB.made w [] (by simp[maxLen])) A L c bs rfl hr0 (by simp;omega) zm ?_)
 intro v1 w1 hown1 hb1 hg1;have hB1:Zb w w1:=((tA5 _ _).alloc (tA4 _) _).trans hb1;go_wp2_with fail
 refine(qha _ _).mono ?_;rintro e w2 ⟨rfl,rfl⟩;obtain⟨s,hs⟩:=xeq (qb0 k);have Hs:=zh1 hs;rw[hs]at hs1 hs8 ⊢;clear hs hb1 hg1 hr0;go_wp2
 go_loopw [7,8] (fun out i wr=>∃j m:Nat,s=j+m∧i=.int .i64 ((m:Int) - 1)∧OwnB wr w.heap.size out (bs++(be n s).take j)∧Zb w wr) (fun _ i _=>(intOf i+1).toNat)
 case atStart=>exact⟨0,s,by omega,rfl,by simpa using hown1,hB1⟩
 case round=>
  obtain⟨j,m,hjm,rfl,hown,hb⟩:=hrel;clear hown1 hB1;cases m with
  |zero=>
   obtain rfl:j=s:=zo;rw[tB5 (by rw[qaw];omega)]at hown;go_wp2
   go_ret
   exact⟨_,rfl,by rw[Hs.o];exact hown,hb⟩
  |succ m=>
   have em:((m+1:Nat):Int) - 1=m:=zo;rw[em];clear em;have hlj:(bs++(be n s).take j).length≤4294967296+8:=by have:=HL.o;rw[tA6,tBd,qaw];omega
   have Hjm:=zh1 hjm;clear hjm;have hm8:m≤7:=by have:=Hjm.o;omega
   go_wp2_with (at_builtin;refine qe2 rfl (.tmp 19) (.tmp 26) rfl w.heap.size _ _ rfl (hown.alloc _) _ 1 1 [n / 2^(8*m) % 256] rfl (by simpa using qe6 wr (n / 2^(8*m) % 256)) zo (by have:=hb.size;simp;omega) ?_)
   intro v1 w1 hown1 hb1 hg1;have HW:Hid (OwnB w1 w.heap.size v1 (bs++(be n s).take (j+1))):=by
    have e:s - 1 - j=m:=by have:=Hjm.o;omega
    rw[qax n s j (by have:=Hjm.o;omega),e];rw[show qav n m=n / 2^(8*m) % 256 from by unfold qav;rw[Nat.pow_mul]];exact hown1
   have HB:=zh1 ((hb.alloc hb.size (.cells #[.int .u8 ((n / 2^(8*m) % 256:Nat):Int)] 5)).trans hb1);clear hown1 hb1 hg1 hb hown;go_wp2
   go_roundw
   case rel=>exact⟨j+1,m,by have:=Hjm.o;omega,rfl,HW.o,HB.o⟩
   case measure=>simp[intOf]
theorem qhc(A A2:Option Addr)(L M c c2:Nat)(bs xs:List Nat)(w:World)(hr:Reads w w.heap.size 1 A L (byv bs))(hx:Reads w w.heap.size 1 A2 M (byv xs))(hl:bs.length≤4294967296)(h2:M≤c2)(hc:c2≤maxLen):
 Zc 98 #[.slice A L c,.slice A2 M c2] w fun e w'=>∃v,e=.returned v∧OwnB w' w.heap.size v (bs++txt xs)∧Zb w w':=by
 unfold maxLen at hc;have hM:=qb4 hx;obtain⟨k,hk⟩:=xeq (xs.length % 65536);have hand:((M:Int) % 65536)=((k:Nat):Int):=zo;have hk1:k≤M:=zo;have hk2:k≤65535:=zo;have hk3:(k:Int)≤c2:=zo;have HK:=zh1 hk;clear hk hM;go_enter Tryz.func98,Tryz.ntmps98
 go_wp2_with fail
 rw[hand];clear hand;have hw64:IntKind.u64.wrap (k:Int)=k:=by rw[IntKind.wrap_u64];omega
 obtain⟨S,HS⟩:∃S:World→Prop,Hid (∀w',S w'):=⟨fun _=>True,fun _=>trivial⟩;refine zrs S 9 (zq 0 3 (zq 4 3 [(3,true),(7,true),(8,false)])) (HS.o _) ?_;repeat(refine qbg rfl rfl ⟨?_,fun w1 hS=>?_,?_⟩;rotate_left;(focus(go_simp;(try rfl)));simp only[Act.put,tA0,tA1,tA2])
 refine zw ?_;go_simp;refine(qhb A L c k 2 bs _ hr.drew hl zo).mono ?_;rintro e w1 ⟨v1,rfl,hown1,hb1⟩;have hb2:=qe5 hb1;have hx1:=(hx.call hb2).pre (k:=k) hk1;rw[show qb0 2=2 from rfl]at hown1;refine⟨by first|exact HS.o _|exact fun _=>HS.o _,?_⟩;refine zw ?_;have etk:(byv xs).take k=byv (xs.take k):=by simp[byv]
 rw[etk]at hx1;refine qe3 (.tmp 12) (.tmp 15) rfl w.heap.size _ _ rfl hown1 A2 k c2 (xs.take k) rfl hx1 (by rw[tA6,qaw];omega) hb2.size ?_;intro v2 w2 hown2 hb3 hg2;refine⟨by first|exact HS.o _|exact fun _=>HS.o _,zput ?_⟩;repeat(refine qbg rfl rfl ⟨?_,fun w1 hS=>?_,?_⟩;rotate_left;(focus(go_simp;(try rfl)));simp only[Act.put,tA0,tA1,tA2])
 refine qbf ?_;have HO:Hid (OwnB w2 w.heap.size v2 (bs++txt xs)):=by
  unfold txt;rw[HK.o,←List.append_assoc];exact hown2
 have HB:=zh1 (hb2.trans hb3);clear hown2 hb3 hg2 hb2 hb1 hown1 hx1 etk hw64;go_wp2
 go_ret
 exact⟨_,rfl,HO.o,HB.o⟩
theorem qhd(k:Int)(w:World):
 Zc 143 #[.int .i64 k] w fun e w'=>e=.returned (.bool (qd8 k))∧w=w':=by
 go_enter Tryz.func143,Tryz.ntmps143
 go_wp2
 all_goals
  go_ret
  refine⟨?_,rfl⟩;exact qdb (by rw[Bool.eq_iff_iff];simp_all [qd8];try omega)
theorem qhe(id:Nat)(l:List (Int × Nat))(tag:List Nat)(h4:¬4<l.length)(h:l.all (fun c=>qd8 c.1)=true):qda id l tag=(0,be id 4++be l.length 1++cavb l++tag):=by
 unfold qda;rw[if_neg h4,if_pos h]
theorem qhf(n:Nat):be n 1=[n % 256]:=by simp[be,qav]
theorem qhg(id:Nat)(l:List (Int × Nat))(A:Option Addr)(c:Nat)(tag:List Nat)(w:World)(hr:Reads w w.heap.size 2 A l.length (cavv l))(hlc:l.length≤c)(hc:c≤maxLen)(hid:id<4294967296)(hln:∀x∈l,x.2<4294967296)(ht:tag.length=32):
 Zc 157 #[.agg (tokv id (.slice A l.length c) tag).toArray] w fun e w'=>∃v,e=.returned (.tuple #[v,.int .i64 ((qda id l tag).1:Int)])∧OwnB w' w.heap.size v (qda id l tag).2∧Zb w w':=by
 unfold maxLen at hc;obtain⟨D,hD⟩:=xeq ((tokv id (.slice A l.length c) tag).toArray);have d0:D[0]? =some (.int .u32 (id:Int)):=by rw[←hD];rfl
 have d1:D[1]? =some (.slice A l.length c):=by rw[←hD];rfl
 have dt:∀j u,(byv tag)[j]? =some u→D[2+j]? =some u:=by
  intro j u h;rw[←hD,tA3,tokv,show 2+j=(j+1)+1 from by omega,tBc,tBc];exact h
 rw[hD];obtain⟨DT,A0⟩:=zh2 dt hln;clear hD dt hln;by_cases h4:4<l.length
 · have H:Hid (qda id l tag=(4,[])):=by unfold Hid qda;rw[if_pos h4]
   go_enter Tryz.func157,Tryz.ntmps157
   go_wp2
   go_ret2
   exact⟨_,by rw[H.o];rfl,by rw[H.o];exact OwnB.nil _ _,(tA5 _ _).alloc (tA4 _) _⟩
 have Ha:Hid (qda id l tag=if l.all fun c=>qd8 c.1 then(0,be id 4++be l.length 1++cavb l++tag) else(1,[])):=by unfold Hid qda;rw[if_neg h4]
 have t0:Blk (w.alloc (.cells D 31)) w.heap.size 31 D:=Blk.new w _ D;go_enter Tryz.func157,Tryz.ntmps157
 go_wp2_with fail
 refine(qhb none 0 0 id 4 [] _ Reads.none_ zm zo).mono ?_;rintro e w1 ⟨v1,rfl,hown1,hb1⟩;simp only[qar,Zb]at hown1 hb1;have B1:Zb w w1:=((tA5 _ _).alloc (tA4 _) _).trans (hb1.mono zo);have t1:=t0.below hb1 zo;have hr1:=(hr.alloc (tA4 _) (.cells D 31)).below (hb1.mono zo);rw[List.nil_append,show qb0 4=4 from rfl]at hown1;have c0:=t1.cell 0;have c1:=t1.cell 1;rw[d0]at c0;rw[d1]at c1;clear hb1 hr t0;have:=t1.lt;have hlm:((l.length:Nat):Int) % 256=((l.length % 256:Nat):Int):=rfl;go_wp2_with (at_builtin;refine qe2 rfl (.tmp 14) (.tmp 19) rfl (w.heap.size+1) _ _ rfl (hown1.alloc _) _ 1 1 [l.length] rfl (qe6 w1 l.length) (by first|omega|(simp only[tA6,tBi,List.length_nil,tBd,qaw]<;>omega)) (by first|omega|(simp only[qar]<;>omega)) ?_)
 intro v2 w2 hown2 hb2 hg2;have ebl:[l.length]=be l.length 1:=by rw[qhf,Nat.mod_eq_of_lt zo]
 rw[ebl]at hown2;have t2:=(t1.alloc (.cells #[.int .u8 (l.length:Int)] 5)).below hb2 zo;have hr2:=(hr1.alloc zo (.cells #[.int .u8 (l.length:Int)] 5)).below (hb2.mono zo);have B2:=(B1.alloc zo (.cells #[.int .u8 (l.length:Int)] 5)).trans (hb2.mono zo);clear hg2 hb2 hown1 hr1 t1 c0 c1 hlm ebl B1;have hsz2:=t2.lt;go_wp2
 go_loopw [4,5] (fun b i wr=>∃k:Nat,k≤l.length∧i=.int .i64 k∧(l.take k).all (fun c=>qd8 c.1)=true∧OwnB wr (w.heap.size+1) b (be id 4++be l.length 1++cavb (l.take k))∧Below (w.heap.size+1) w2 wr) (fun _ i _=>l.length - (intOf i).toNat)
 case atStart=>exact⟨0,by omega,rfl,by simp,by simpa [cavb] using hown2,tA5 _ _⟩
 case round=>
  obtain⟨k,hk,rfl,hall,hown,hbr⟩:=hrel;have tr:=t2.below hbr zo;have hrr:=hr2.below (hbr.mono zo);have Hall:=zh1 hall;have hszr:=hbr.size;have hszr':w.heap.size+1≤wr.heap.size:=zo;clear hall t2 hr2 hown2;have c1:=tr.cell 1;rw[d1]at c1;by_cases hlt:k<l.length
  ·
   have hx:l[k]? =some l[k]:=tA7 hlt;obtain⟨x,hxe⟩:=xeq (l[k]);rw[hxe]at hx;clear hxe;obtain⟨q0,q1⟩:=qdi l k x hx;obtain⟨b,o,rfl,hab,hcell⟩:=hrr.mid zo zo;have m0:=hcell _ _ q0;have m1:=hcell _ _ q1;rw[←Nat.add_assoc]at m1;have Hx:=zh1 hx;clear hx q0 q1 hcell;go_wp2_with fail
   refine zca (qhd _ _) ?_;cases hkb:qd8 x.1 with
   |true=>
    obtain⟨k1,k3⟩:=qd9 hkb;obtain⟨kd,hkd⟩:∃kd:Nat,x.1=(kd:Int):=⟨x.1.toNat,by omega⟩;have hxn:=A0.o x (tB2 Hx.o);rw[hkd]at k1 k3 m0;have hcv:IntKind.u8.wrap (kd:Int)=kd:=IntWalk.u8_in _ zo;have hcw:IntKind.u64.wrap (x.2:Int)=x.2:=tBa _ zo;go_wp2_with fail
    obtain⟨S,HS⟩:=zS fun w'=>w'.cell? ⟨w.heap.size,1,none⟩=some (.slice (some ⟨b,o,none⟩) l.length c)∧w'.cell? ⟨b,o+k*2,none⟩=some (.int .i64 kd)∧w'.cell? ⟨b,o+k*2+1,none⟩=some (.int .u32 (x.2:Int))
    refine zrs S 19 (zq 0 8 (zq 10 7 [(8,true),(9,true),(17,true),(18,false)])) ((HS.o _).mpr ⟨c1,m0,m1⟩) ?_;repeat(refine zrt0 ?_)
    refine zw ?_;go_simp;refine⟨(HS.o _).mpr ⟨qaj c1 _,qaj m0 _,qaj m1 _⟩,?_⟩;refine zw ?_;have hkb8:b<(wr.alloc (.cells #[.int .u8 (kd:Int)] 5)).heap.size:=by rw[qar];omega
    refine qe3 (.tmp 36) (.tmp 44) rfl (w.heap.size+1) _ _ rfl (hown.alloc (.cells #[.int .u8 (kd:Int)] 5)).drew _ 1 1 [kd] rfl (qe6 wr kd).drewS (by have:=qdh (l.take k);simp only[tA6,qaw,tBd]at*;omega) (by rw[qe4,qar];omega) ?_;intro v3 w3 hown3 hb3 hg3;have hb3':Below (w.heap.size+1) wr w3:=((tA5 _ _).alloc hszr' _).drew.trans hb3;have n1:=(hb3'.cell (p:=⟨w.heap.size,1,none⟩) zm).trans c1;have n0:=(hb3'.cell (p:=⟨b,o+k*2,none⟩) (by simp;omega)).trans m0;have n2:=(hb3'.cell (p:=⟨b,o+k*2+1,none⟩) (by simp;omega)).trans m1;refine⟨fun _=>(HS.o _).mpr ⟨n1,n0,n2⟩,?_⟩;simp only[Act.put,tA0,tA1,tA2];obtain⟨A3,n3,c3,rfl,hl3,hm3,hr3⟩:=hown3.sl;refine zw ?_;go_simp;refine(qhb A3 n3 c3 x.2 4 _ _ hr3 (by have:=qdh (l.take k);simp only[tA6,qaw,tBd,tBi,List.length_nil]at*;omega) zo).mono ?_;rintro e w4 ⟨v4,rfl,hown4,hb4⟩;have p1:=qai n1 hb4;have p0:=qai n0 hb4;have p2:=qai n2 hb4;refine⟨by first|exact(HS.o _).mpr ⟨p1,p0,p2⟩|exact fun _=>(HS.o _).mpr ⟨p1,p0,p2⟩,?_⟩;repeat(refine zrt0 ?_)
    refine qbf ?_;have HO:Hid (OwnB w4 (w.heap.size+1) v4 (be id 4++be l.length 1++cavb (l.take (k+1)))):=by
     have e1:x.1.toNat=kd:=zo;rw[qdg l k x Hx.o,←List.append_assoc,←List.append_assoc,e1,qhf kd,Nat.mod_eq_of_lt zo];exact hown4.mono (by have:=hb3'.size;omega)
    have HB:=zh1 (hbr.trans (hb3'.trans (hb4.mono (by have:=hb3'.size;omega))));have hka:(l.take (k+1)).all (fun c=>qd8 c.1)=true:=by
     rw[List.take_add_one,Hx.o,List.all_append,Hall.o];simpa using hkb
    have Hka:=zh1 hka;clear p0 p1 p2 n0 n1 n2 hown4 hb4 hown3 hb3 hg3 hb3' hown hbr tr hrr c1 m0 m1 HS hka hkb hcv hcw;go_wp2
    go_roundw
    case rel=>exact⟨k+1,by omega,by go_num,Hka.o,HO.o,HB.o⟩
    case measure=>simp[intOf];omega
   |false=>
    have H:Hid (qda id l tag=(1,[])):=by
     unfold Hid;rw[Ha.o,if_neg];intro h;have:=List.all_eq_true.1 h x (tB2 Hx.o);rw[hkb]at this;cases this
    have HB:=zh1 (B2.trans (hbr.mono zo));go_wp2
    go_ret2
    exact⟨_,by rw[H.o];rfl,by rw[H.o];exact OwnB.nil _ _,HB.o⟩
  obtain rfl:k=l.length:=zo;rw[List.take_length]at hown;have H:Hid (qda id l tag=(0,be id 4++be l.length 1++cavb l++tag)):=qhe id l tag h4 (by simpa using Hall.o);have hrt:Reads wr wr.heap.size 1 (some ⟨w.heap.size,2,none⟩) 32 (byv tag):=by
   refine⟨by rw[qat,ht],fun _=>⟨_,rfl,tr.lt,fun j u hu=>?_⟩⟩;rw[Addr.add_mid,tr.cell (2+j)];exact DT.o j u hu
  go_wp2_with (at_builtin;refine qe2 rfl (.tmp 54) (.tmp 56) rfl (w.heap.size+1) _ _ rfl hown _ 32 32 tag rfl hrt (by have:=qdh l;simp only[tA6,qaw]at*;omega) zo ?_)
  intro v3 w3 hown3 hb3 hg3;obtain⟨HO,HB⟩:=zh2 (hown3.mono (show w.heap.size≤w.heap.size+1 by omega)) ((B2.trans (hbr.mono zo)).trans (hb3.mono zo));clear hown3 hb3 hg3 hown hbr tr hrr c1 hrt;go_wp2
  go_ret2
  exact⟨_,by rw[H.o];rfl,by rw[H.o];simpa [List.append_assoc] using HO.o,HB.o⟩
theorem qhh(bs:List Nat)(s:RSt)(n:Nat)(x:Nat × Nat)(h:s.2=some x):qg6 bs s n=(s,[]):=by
 unfold qg6;rw[h]
theorem qhi(bs:List Nat)(s:RSt)(n:Nat)(x:Nat × Nat)(h:s.2=some x):rNum bs s n=(s,0):=by
 unfold rNum;rw[qhh bs s n x h];rfl
theorem qhj(s:RSt)(a y:Nat)(x:Nat × Nat)(h:s.2=some x):qg5 s a y=s:=by
 unfold qg5;rw[h]
theorem qhk(s:RSt)(a y:Nat):(qg5 s a y).2≠none:=by
 unfold qg5;split
 · simp
 rename_i h
 simp[h]
theorem qhl(bs:List Nat)(n:Nat)(s:RSt)(l:List (Int × Nat))(x:Nat × Nat)(h:s.2=some x):(qh2 bs n s l).1=s:=by
 cases n with
 |zero=>rfl
 |succ n=>
  unfold qh2;rw[qhi bs s 1 x h];simp[qd8,qhj s s.1 12 x h]
theorem qhm{fn:Func}{t s r:Tmp}{tmps:Array Value}(h:fn.results=#[.cell t ty,.tmp s,.tmp r])(ht:tmps.getD t undef=.pointer (some ⟨g,0,none⟩))
 (hl:(loadVar ty ⟨g,0,none⟩).run P w=.ok v w):(results fn tmps).run P w=.ok (.tuple #[v,tmps.getD s undef,tmps.getD r undef]) w:=by
 unfold results;rw[h];simp only[Array.getD_eq_getD_getElem?]at ht;simp[ht,asAddr,hl,Sem.run_pure]
def qhn (bs:List Nat)(s:RSt)(most:Nat):RSt × List Nat:=
 qg6 bs (if (rNum bs s 2).1.2=none∧most<(rNum bs s 2).2 then(s.1,some (s.1,3)) else(rNum bs s 2).1) (rNum bs s 2).2
theorem qho(bs:List Nat)(s:RSt)(m:Nat)(h:∀x∈bs,x<256):∀x∈(qhn bs s m).2,x<256:=qgf _ _ _ h
theorem Rd.at_le{s:RSt}(h:Rd w B g bs s):s.1≤bs.length:=by
 obtain⟨A,n,c,p,hg,hB,ho,hn,hc,hs,hm,hp⟩:=h;omega
theorem qhp(B g:Nat)(bs:List Nat)(s:RSt)(m:Nat)(w:World)(h:Rd w B g bs s)(hb:∀x∈bs,x<256)(hm:m≤65536):
 Zc 70 #[.pointer (some ⟨g,0,none⟩),.int .i64 m] w fun e w'=>∃v,e=.returned v∧OwnB w' w.heap.size v (qhn bs s m).2∧Rd w' B g bs (qhn bs s m).1∧w.grownBy w' (some g):=by
 have h':=h;obtain⟨A,n,c,p,hg,-⟩:=h';have c1:=hg.cell 1;rw[show (#[Value.slice A n c,.int .i64 (s.1:Int),.pointer p]:Array Value)[1]? =some (.int .i64 (s.1:Int)) from rfl]at c1;have H:=zh1 h;clear h hg;go_enter Tryz.func70,Tryz.ntmps70
 go_wp2_with fail
 refine(qgh B g bs s 2 w H.o hb).mono ?_;rintro e w1 ⟨rfl,h1,g1⟩;have hlt:=qgg bs s 2 hb;have e2:qb0 2=2:=rfl;rw[e2]at h1 ⊢;clear e2;have hRB:qhn bs s m=qg6 bs (if (rNum bs s 2).1.2=none∧m<(rNum bs s 2).2 then(s.1,some (s.1,3)) else(rNum bs s 2).1) (rNum bs s 2).2:=rfl;have hsl:=H.at_le;obtain⟨⟨s1,k⟩,hk⟩:∃x,rNum bs s 2=x:=⟨_,rfl⟩;rw[hk]at h1 hlt hRB ⊢;dsimp only at h1 hlt hRB ⊢;have hk2:k<65536:=Nat.lt_of_lt_of_eq hlt zdc;have kw:IntKind.i64.wrap (k:Int)=k:=tBb _ zo;have A3:=zh1 hRB;have h1':=h1;obtain⟨A1,n1,c1',p1,hg1,hB1,ho1,hn1,hc1,hs1,hm1,hp1⟩:=h1';have c2:=hg1.cell 2;have f1:=hg1.frozen 1;have d1:=hg1.cell 1;rw[show (#[Value.slice A1 n1 c1',.int .i64 (s1.1:Int),.pointer p1]:Array Value)[2]? =some (.pointer p1) from rfl]at c2;rw[show (#[Value.slice A1 n1 c1',.int .i64 (s1.1:Int),.pointer p1]:Array Value)[1]? =some (.int .i64 (s1.1:Int)) from rfl]at d1;obtain⟨H1,G1,HP⟩:=zh3 h1 g1 hp1;have hlt1:=hg1.lt;obtain⟨A4,A5⟩:=zh2 hg1 ho1;clear h1 g1 hlt hRB hk c1 hp1 hg1 ho1;cases hs2:s1.2 with
 |some x=>
  have hx:=HP.o;rw[hs2]at hx;obtain⟨kb,rfl,hkB,hkb⟩:=hx;have e:Hid (qhn bs s m=qg6 bs s1 k):=by
   show _=_;rw[A3.o,if_neg (by rw[hs2];simp)]
  have T:=zh1 (qgb B g bs s1 k w1 H1.o zo);clear hkb;go_wp2_with fail
  refine T.o.mono ?_;rintro e2 w2 ⟨A2,n2,c2,rfl,hnc2,rd2,h2,g2⟩;go_wp2_with fail
  refine(qd3 A2 n2 c2 w2.heap.size _ w2 rd2 (qau _) (by have:=qb4 rd2;have:=qge bs s1 k;omega)).mono ?_;rintro e3 w3 ⟨v,rfl,own3,b3⟩;have l2:=qb4 rd2;go_wp2
  go_ret
  rw[e.o];refine⟨v,rfl,OwnB.mono (base:=w2.heap.size) (by unfold OwnB;rw[l2];exact own3) ?_,h2.below b3,?_⟩
  · exact tB1 G1.size g2.size
  exact qac (qac G1.o g2 (fun d e=>by injection e with e;exact .inl e.symm)) (qad b3 none) (fun d e=>by cases e)
 |none=>
  have hx:=HP.o;rw[hs2]at hx;obtain rfl:p1=none:=hx;by_cases hkm:m<k
  ·
   have q:(m:Int)<k:=zo;have e:Hid (qhn bs s m=qg6 bs (s.1,some (s.1,3)) k):=by
    show _=_;rw[A3.o,if_pos ⟨hs2,hkm⟩]
   have hset:Rd (w1.setCell ⟨g,1,none⟩ (.int .i64 (s.1:Int))) B g bs (s.1,none):=
    ⟨A1,n1,c1',none,A4.set_ 1 _,hB1,OwnB.far A5.o (p:=⟨g,1,none⟩) (OwnB.blk_ne A5.o A4.o zdc) _,hn1,hc1,by dsimp only;omega,hm1,rfl⟩
   obtain⟨A0,GS⟩:=zh2 hset (qab (p:=⟨g,1,none⟩) G1.o (.inl rfl) (.int .i64 (s.1:Int)));clear hset;go_upto_region 5 with(fail)
   obtain⟨wa,hwa⟩:=eqx (w1.setCell ⟨g,1,none⟩ (.int .i64 (s.1:Int)));rw[←hwa]at A0 GS ⊢;clear hwa c2 d1 f1;go_wp2_with fail
   refine(qg9 B g bs (s.1,none) s.1 3 wa A0.o zdc).mono ?_;rintro e5 wb ⟨rfl,hb5,g5⟩;obtain⟨GB,T⟩:=zh2 (qac GS.o g5 (fun d e=>by injection e with e;exact .inl e.symm)) (qgb B g bs (s.1,some (s.1,3)) k wb hb5 zo);clear hb5 g5;go_wp2_with fail
   refine T.o.mono ?_;rintro e2 w2 ⟨A2,n2,c2,rfl,hnc2,rd2,h2,g2⟩;go_wp2_with fail
   refine(qd3 A2 n2 c2 w2.heap.size _ w2 rd2 (qau _) (by have:=qb4 rd2;have:=qge bs (s.1,some (s.1,3)) k;omega)).mono ?_;rintro e3 w3 ⟨v,rfl,own3,b3⟩;have l2:=qb4 rd2;go_wp2
   go_ret
   rw[e.o];refine⟨v,rfl,OwnB.mono (base:=w2.heap.size) (by unfold OwnB;rw[l2];exact own3) ?_,h2.below b3,?_⟩
   · exact tB1 GB.size g2.size
   exact qac (qac GB.o g2 (fun d e=>by injection e with e;exact .inl e.symm)) (qad b3 none) (fun d e=>by cases e)
  have q:¬(m:Int)<k:=zo;have e:Hid (qhn bs s m=qg6 bs s1 k):=by
   show _=_;rw[A3.o,if_neg (fun h=>hkm h.2)]
  have T:=zh1 (qgb B g bs s1 k w1 H1.o zo);go_wp2_with fail
  refine T.o.mono ?_;rintro e2 w2 ⟨A2,n2,c2,rfl,hnc2,rd2,h2,g2⟩;go_wp2_with fail
  refine(qd3 A2 n2 c2 w2.heap.size _ w2 rd2 (qau _) (by have:=qb4 rd2;have:=qge bs s1 k;omega)).mono ?_;rintro e3 w3 ⟨v,rfl,own3,b3⟩;have l2:=qb4 rd2;go_wp2
  go_ret
  rw[e.o];refine⟨v,rfl,OwnB.mono (base:=w2.heap.size) (by unfold OwnB;rw[l2];exact own3) ?_,h2.below b3,?_⟩
  · exact tB1 G1.size g2.size
  exact qac (qac G1.o g2 (fun d e=>by injection e with e;exact .inl e.symm)) (qad b3 none) (fun d e=>by cases e)
theorem qhq(B g:Nat)(bs:List Nat)(s:RSt)(w:World)(h:Rd w B g bs s)(hE:w.cell? ⟨0,0,none⟩=some (.iface 327 (.agg #[.pointer (some ⟨3,81,none⟩)]))):
 Zc 76 #[.pointer (some ⟨g,0,none⟩)] w fun e w'=>∃v,e=.returned v∧RErr w' w.heap.size v (rEnd bs s)∧Zb w w':=by
 have p0:=Blk.new w 237 #[.pointer none];obtain⟨W0,hW0⟩:=eqx (w.alloc (.cells #[.pointer none] 237));have b0:=zMa hW0;rw[←hW0]at p0;have hlt:=World.block_lt_of_cell? _ _ hE;obtain⟨HE,H0,P0,B0,A1⟩:=zh5 hE (h.below b0) p0 b0 hW0;clear hE h p0 b0 hW0;go_enter Tryz.func76,Tryz.ntmps76
 go_upto_region 2 with(fail)
 rw[←A1.o];go_wp2_with fail
 refine(qgl B g bs s W0 H0.o).mono ?_;rintro e w1 ⟨v,rfl,er,b1⟩;have p1:=P0.below b1 P0.lt;have B1:=zh1 (B0.trans (b1.mono B0.size));have hB0:=B0.size;cases hend:rEnd bs s with
 |none=>
  rw[hend]at er;have er0:v=.nilIface:=er;subst er0;go_wp2_with fail
  refine(qgm _ w1).mono ?_;rintro e2 _ ⟨rfl,rfl⟩;go_wp2
  go_ret
  exact⟨_,rfl,by rw[hend];rfl,B1.o⟩
 |some x=>
  rw[hend]at er;obtain⟨hh,rfl,hhB,hkb⟩:=er;have hg1:=(B1.cell (p:=⟨0,0,none⟩) hlt).trans HE.o;obtain⟨AS,HK,P1,A0⟩:=zh4 (qh6 hh w.heap.size (.pointer none) w1 hg1 p1) hkb p1 hend;clear hkb p1 hg1 hend;go_wp2_with fail
  refine AS.o.mono ?_;rintro e2 w2 ⟨rfl,p2,g2⟩;have c2:=p2.cell 0;rw[show (#[Value.pointer (some ⟨hh,0,none⟩)]:Array Value)[0]? =some (.pointer (some ⟨hh,0,none⟩)) from rfl]at c2;have k2:=HK.grown g2 (by
   intro e;injection e with e;subst e;exact HK.ne_ P1.o zdc rfl)
  obtain⟨B2,K2⟩:=zh2 (adv B1.o g2 (tA4 _) P1.lt) k2;clear p2 g2 k2;go_wp2
  go_ret
  exact⟨_,rfl,by rw[A0.o];exact⟨hh,rfl,tB1 hB0 hhB,K2.o⟩,B2.o⟩
theorem qhr:∀(l:List Nat),(∀x∈l,x<256)→be (num l) l.length=l:=by
 intro l hl;have key:∀k,k≤l.length→be (num (l.take k)) k=l.take k:=by
  intro k;induction k with
  |zero=>intro _;simp[be]
  |succ k ih=>
   intro hk;have hk':k<l.length:=zo;have hx:=hl _ (List.getElem_mem hk');rw[List.take_add_one,tA7 hk',Option.toList_some,qgc];have e:∀n x,x<256→be (n*256+x) (k+1)=be n k++[x]:=by
    intro n x hx;unfold be;rw[List.range_succ,List.map_append];congr 1
    · refine List.map_congr_left fun j hj=>?_
      have hj':=List.mem_range.1 hj;unfold qav;rw[show k+1 - 1 - j=(k - 1 - j)+1 by omega,Nat.pow_succ,Nat.mul_comm (256^_) 256,←Nat.div_div_eq_div_mul];congr 2
      omega
    simp[qav];omega
   rw[e _ _ hx,ih zo]
 have:=key l.length (tA4 _);simpa using this
theorem qhs(c:Int × Nat)(l:List (Int × Nat)):cavb (c::l)=be c.1.toNat 1++(be c.2 4++cavb l):=by simp[cavb]
theorem qht(bs:List Nat)(s:RSt)(k:Nat)(hs:s.1≤bs.length)(h:(qg6 bs s k).1.2=none):
 s.2=none∧(qg6 bs s k).1=(s.1+k,none)∧s.1+k≤bs.length∧(qg6 bs s k).2.length=k∧bs.take (s.1+k)=bs.take s.1++(qg6 bs s k).2:=by
 unfold qg6 at h ⊢;split at h
 · rename_i x hx
   rw[hx]at h;cases h
 rename_i hx
 split at h
 · rename_i hk
   rw[if_pos hk];refine⟨hx,rfl,by omega,by simp;omega,?_⟩;rw[List.take_add]
 cases h
theorem qhu(bs:List Nat)(s:RSt)(k:Nat)(hs:s.1≤bs.length)(hb:∀x∈bs,x<256)(h:(rNum bs s k).1.2=none):
 s.2=none∧(rNum bs s k).1=(s.1+k,none)∧s.1+k≤bs.length∧bs.take (s.1+k)=bs.take s.1++be (rNum bs s k).2 k:=by
 obtain⟨h1,h2,h3,h4,h5⟩:=qht bs s k hs h;refine⟨h1,h2,h3,?_⟩;have:=qhr (qg6 bs s k).2 (qgf bs s k hb);rw[h4]at this;rw[h5];show _=_++be (num (qg6 bs s k).2) k;rw[this]
theorem qhv (bs:List Nat)(hb:∀x∈bs,x<256):∀(n:Nat) (s:RSt) (acc:List (Int × Nat)),s.1≤bs.length→(qh2 bs n s acc).1.2=none→
 s.2=none∧(qh2 bs n s acc).1=(s.1+5*n,none)∧s.1+5*n≤bs.length∧
  ∃l,(qh2 bs n s acc).2=acc++l∧l.length=n∧(∀c∈l,qd8 c.1=true∧c.2<4294967296)∧bs.take (s.1+5*n)=bs.take s.1++cavb l
 |0,s,acc,hs,h=>by
  obtain⟨s1,s2⟩:=s;have h':s2=none:=h;subst h';exact⟨rfl,rfl,hs,[],by simp[qh2],rfl,by simp,by simp[cavb]⟩
 |n+1,s,acc,hs,h=>by
  unfold qh2 at h ⊢;split at h
  ·
   rename_i hk
   rw[if_pos hk];have hmid:(rNum bs (rNum bs s 1).1 4).1.2=none:=by
    cases h2:(rNum bs (rNum bs s 1).1 4).1.2 with
    |none=>rfl
    |some x=>
     rw[qhl bs n _ _ x h2,h2]at h;cases h
   have hmid1:(rNum bs s 1).1.2=none:=by
    cases h2:(rNum bs s 1).1.2 with
    |none=>rfl
    |some x=>
     rw[qhi bs _ 4 x h2,h2]at hmid;cases hmid
   obtain⟨a1,a2,a3,a4⟩:=qhu bs s 1 hs hb hmid1;have kb:=qd9 hk;have h4l:=qgg bs (rNum bs s 1).1 4 hb;rw[a2]at h hmid h4l ⊢;obtain⟨b1,b2,b3,b4⟩:=qhu bs (s.1+1,none) 4 a3 hb hmid;obtain⟨c1,c2,c3,l,c4,c5,c6,c7⟩:=qhv bs hb n _ _ (by rw[b2];exact b3) h;rw[b2]at c2 c3 c7;refine⟨a1,?_,?_,(((rNum bs s 1).2:Int),(rNum bs (s.1+1,none) 4).2)::l,?_,by simp[c5],?_,?_⟩
   · rw[b2,c2]
     simp only;congr 1
     omega
   · simp only at c3
     omega
   · rw[c4]
     simp
   · intro c hc
     rcases List.mem_cons.1 hc with rfl|hc
     · exact⟨hk,Nat.lt_of_lt_of_eq h4l zdc⟩
     exact c6 c hc
   simp only at c7 b4 a4;rw[show s.1+5*(n+1)=s.1+1+4+5*n by omega,c7,b4,a4,qhs];simp[List.append_assoc]
  exact absurd h (qhk _ _ _)
theorem qhw(bs:List Nat)(hb:∀x∈bs,x<256)(h:(decT bs (0,none)).1.2=none):
 ∃id l tag,decT bs (0,none)=((37+5*l.length,none),(id,l,tag))∧id<4294967296∧l.length≤4∧(∀c∈l,qd8 c.1=true∧c.2<4294967296)∧tag.length=32∧(∀x∈tag,x<256)∧37+5*l.length≤bs.length∧bs.take (37+5*l.length)=be id 4++be l.length 1++cavb l++tag:=by
 have hdef:decT bs (0,none)=((rDig bs (qh2 bs (qh3 bs (rNum bs (rNum bs (0,none) 4).1 1).1 (rNum bs (rNum bs (0,none) 4).1 1).2).2 (qh3 bs (rNum bs (rNum bs (0,none) 4).1 1).1 (rNum bs (rNum bs (0,none) 4).1 1).2).1 []).1).1,
  ((rNum bs (0,none) 4).2,(qh2 bs (qh3 bs (rNum bs (rNum bs (0,none) 4).1 1).1 (rNum bs (rNum bs (0,none) 4).1 1).2).2 (qh3 bs (rNum bs (rNum bs (0,none) 4).1 1).1 (rNum bs (rNum bs (0,none) 4).1 1).2).1 []).2,
   (rDig bs (qh2 bs (qh3 bs (rNum bs (rNum bs (0,none) 4).1 1).1 (rNum bs (rNum bs (0,none) 4).1 1).2).2 (qh3 bs (rNum bs (rNum bs (0,none) 4).1 1).1 (rNum bs (rNum bs (0,none) 4).1 1).2).1 []).1).2)):=rfl
 rw[hdef]at h ⊢;simp only at h;obtain⟨D,hD⟩:=xeq (qh2 bs (qh3 bs (rNum bs (rNum bs (0,none) 4).1 1).1 (rNum bs (rNum bs (0,none) 4).1 1).2).2 (qh3 bs (rNum bs (rNum bs (0,none) 4).1 1).1 (rNum bs (rNum bs (0,none) 4).1 1).2).1 []);rw[hD]at h ⊢;have hDn:D.1.2=none:=by
  cases h2:D.1.2 with
  |none=>rfl
  |some x=>
   unfold rDig at h;rw[qhh bs _ 32 x h2]at h;simp only at h;rw[h2]at h;cases h
 have hhead:4<(rNum bs (rNum bs (0,none) 4).1 1).2→False:=fun h4=>by
  unfold qh3 at hD;rw[if_pos h4]at hD;rw[←hD]at hDn;exact qhk _ _ _ hDn
 have hhd:qh3 bs (rNum bs (rNum bs (0,none) 4).1 1).1 (rNum bs (rNum bs (0,none) 4).1 1).2=((rNum bs (rNum bs (0,none) 4).1 1).1,(rNum bs (rNum bs (0,none) 4).1 1).2):=by
  unfold qh3;rw[if_neg hhead]
 rw[hhd]at hD;simp only at hD;have h1n:(rNum bs (rNum bs (0,none) 4).1 1).1.2=none:=by
  cases h2:(rNum bs (rNum bs (0,none) 4).1 1).1.2 with
  |none=>rfl
  |some x=>
   rw[←hD,qhl bs _ _ _ x h2,h2]at hDn;cases hDn
 have h0n:(rNum bs (0,none) 4).1.2=none:=by
  cases h2:(rNum bs (0,none) 4).1.2 with
  |none=>rfl
  |some x=>
   rw[qhi bs _ 1 x h2,h2]at h1n;cases h1n
 obtain⟨a1,a2,a3,a4⟩:=qhu bs (0,none) 4 (Nat.zero_le _) hb h0n;have hid:=qgg bs (0,none) 4 hb;rw[a2]at h1n hD hhead;obtain⟨b1,b2,b3,b4⟩:=qhu bs (0+4,none) 1 a3 hb h1n;rw[b2]at hD;rw[←hD]at hDn;obtain⟨c1,c2,c3,l,c4,c5,c6,c7⟩:=qhv bs hb _ _ [] b3 hDn;rw[hD]at c2 c4;have hDD:D=((0+4+1+5*(rNum bs (0+4,none) 1).2,none),l):=by
  rw[show D=(D.1,D.2) from rfl,c2,c4];rfl
 rw[hDD]at h ⊢;simp only at h c3 c7 a4 b4 ⊢;obtain⟨d1,d2,d3,d4,d5⟩:=qht bs (0+4+1+5*(rNum bs (0+4,none) 1).2,none) 32 c3 h;have hdl:=qgi bs (0+4+1+5*(rNum bs (0+4,none) 1).2,none);have hdb:=qgj bs (0+4+1+5*(rNum bs (0+4,none) 1).2,none) hb;have hdd:(rDig bs (0+4+1+5*(rNum bs (0+4,none) 1).2,none)).2=(qg6 bs (0+4+1+5*(rNum bs (0+4,none) 1).2,none) 32).2:=by
  unfold rDig;simp only;rw[d4];simp
 have hd1:(rDig bs (0+4+1+5*(rNum bs (0+4,none) 1).2,none)).1=(0+4+1+5*(rNum bs (0+4,none) 1).2+32,none):=d2;rw[←c5]at hd1 hdd hdl hdb d3 d5 c7 hhead b4 ⊢;have e37:0+4+1+5*l.length+32=37+5*l.length:=zo;refine⟨(rNum bs (0,none) 4).2,l,(rDig bs (0+4+1+5*l.length,none)).2,?_,Nat.lt_of_lt_of_eq hid zdc,Nat.le_of_not_lt hhead,c6,hdl,hdb,?_,?_⟩
 · rw[hd1,e37]
 · rw[←e37]
   exact d3
 simp only at d5;rw[←e37,d5,c7,b4,a4,hdd];simp[List.append_assoc]
theorem qhx(bs:List Nat)(hb:∀x∈bs,x<256)(h:(qh4 bs).1=none):
 ∃id l tag,qh4 bs=(none,(id,l,tag))∧id<4294967296∧l.length≤4∧(∀c∈l,qd8 c.1=true∧c.2<4294967296)∧tag.length=32∧(∀x∈tag,x<256)∧qda id l tag=(0,bs):=by
 unfold qh4 at h ⊢;cases hE:rEnd bs (decT bs (0,none)).1 with
 |some x=>
  rw[hE]at h;cases h
 |none=>
  have hn:(decT bs (0,none)).1.2=none:=by
   unfold rEnd at hE;split at hE
   · cases hE
   assumption
  obtain⟨id,l,tag,e,h1,h2,h3,h4,h5,h6,h7⟩:=qhw bs hb hn;have hlen:bs.length≤37+5*l.length:=by
   rw[e]at hE;unfold rEnd at hE;simp only at hE;split at hE
   · cases hE
   omega
  refine⟨id,l,tag,by simp only[e],h1,h2,h3,h4,h5,?_⟩;rw[tB5 hlen]at h7;unfold qda;rw[if_neg zo,if_pos (List.all_eq_true.2 fun c hc=>by simpa using (h3 c hc).1),h7]
theorem qhy(bs:List Nat)(hb:∀x∈bs,x<256):(qh4 bs).2.Ok∧(qh4 bs).2.2.1.length≤4:=by
 cases h:(qh4 bs).1 with
 |none=>
  obtain⟨id,l,tag,e,h1,h2,h3,h4,h5,-⟩:=qhx bs hb h;rw[e];exact⟨⟨h1,fun c hc=>(h3 c hc).2,h4,h5⟩,h2⟩
 |some x=>
  have:(qh4 bs).2=qgt:=by
   unfold qh4 at h ⊢;split at h
   · cases h
   rfl
  rw[this];exact⟨⟨by decide,fun c hc=>(nomatch hc),by simp[qgt],by intro x hx;simp[qgt]at hx;omega⟩,by simp[qgt]⟩
theorem qhz(v:Int)(w:World):
 Zc 154 #[.int .i64 v] w fun e w'=>e=.returned (.bool (decide (0≤v∧v≤255)))∧w=w':=by
 by_cases h0:0≤v
 ·
  by_cases h1:v≤255
  · go_enter Tryz.func154,Tryz.ntmps154
    go_wp2
    go_ret
    exact⟨qdb (by simp[h0,h1]),rfl⟩
  go_enter Tryz.func154,Tryz.ntmps154
  go_wp2
  go_ret
  exact⟨qdb (by simp[h0,h1]),rfl⟩
 go_enter Tryz.func154,Tryz.ntmps154
 go_wp2
 go_ret
 exact⟨qdb (by simp;omega),rfl⟩
def Req.num (R:Req)(o:Nat):Int:=
 match o with
 |35=>R.tree|36=>R.tenant|37=>R.role|38=>R.state|39=>R.weight|40=>R.id|41=>R.lo|42=>R.hi|43=>R.rate|44=>R.burst|45=>R.store|46=>R.expires|_=>0
def qi0 (R:Req)(f:Fld):Nat:=
 if f.2.1=1 then(if 0≤R.num f.2.2∧R.num f.2.2≤255 then 0 else 1)
 else if f.2.1=2∨f.2.1=3 then 0
 else if 256<R.leaf.length then 3 else 0
def fldB (R:Req)(f:Fld):List Nat:=
 if f.2.1=1∨f.2.1=2∨f.2.1=3 then be (R.num f.2.2).toNat f.1 else txt R.leaf
def qi1 (R:Req):List Fld→List Nat→Nat × List Nat
 |[],acc=>(0,acc)
 |f::l,acc=>if qi0 R f=0 then qi1 R l (acc++fldB R f) else(qi0 R f,[])
def qi2 (R:Req):Nat × List Nat:=
 match fieldsOf R.op with
 |none=>(1,[])
 |some l=>qi1 R l (be R.op.toNat 1)
theorem qi3(R:Req)(l:List Fld)(k:Nat)(acc:List Nat)(h:∀f∈l.take k,qi0 R f=0):qi1 R l acc=qi1 R (l.drop k) (acc++(l.take k).flatMap (fldB R)):=by
 induction l generalizing k acc with
 |nil=>simp[qi1]
 |cons f l ih=>
  cases k with
  |zero=>simp
  |succ k=>
   rw[List.take_succ_cons]at h;rw[qi1,if_pos (h f zm),ih k _ (fun x hx=>h x (by simp[hx]))];simp
theorem qi4(R:Req)(l:List Fld)(k:Nat)(f:Fld)(acc:List Nat)(h:∀f∈l.take k,qi0 R f=0)(hk:l[k]? =some f)(hf:qi0 R f≠0):qi1 R l acc=(qi0 R f,[]):=by
 rw[qi3 R l k acc h];have hlt:k<l.length:=by
  rcases Nat.lt_or_ge k l.length with h|h
  · exact h
  rw[List.getElem?_eq_none h]at hk;cases hk
 rw[List.drop_eq_getElem_cons hlt];have:l[k]=f:=by rw[tA7 hlt]at hk;simpa using hk
 rw[this,qi1,if_neg hf]
theorem qi5(g:Nat)(l:List Fld)(k:Nat)(f:Fld)(h:l[k]? =some f)(j:Nat)(hj:j<4):(qdm g l)[k*4+j]? =(fldv g f)[j]? :=by
 have h4:∀f,(fldv g f).length=4:=by intro f;unfold fldv;split<;>(try split)<;>(try split)<;>rfl
 unfold qdm;induction l generalizing k with
 |nil=>simp at h
 |cons y l ih=>
  rw[List.flatMap_cons];cases k with
  |zero=>simp at h;subst h;rw[tBm (by rw[h4];omega)];simp
  |succ k=>
   rw[tBn (by rw[h4];omega),h4,←ih k (by simpa using h)];congr 1
   omega
def IsFld (f:Fld):Prop:=f=(1,1,35)∨f=(1,1,36)∨f=(1,1,37)∨f=(1,1,38)∨f=(1,1,39)∨f=(4,2,40)∨f=(8,3,41)∨f=(8,3,42)∨f=(4,2,43)∨f=(4,2,44)∨f=(4,2,45)∨f=(8,3,46)∨f=(0,0,0)
theorem qi6(op:Int)(l:List Fld)(hl:fieldsOf op=some l)(f:Fld)(hf:f∈l):IsFld f:=by
 unfold fieldsOf at hl;repeat' split at hl
 all_goals simp only[Option.some.injEq,reduceCtorEq]at hl
 all_goals subst hl
 all_goals simp only[List.mem_cons,List.not_mem_nil,or_false]at hf
 all_goals unfold IsFld
 all_goals first|(rcases hf with rfl|rfl|rfl|rfl<;>simp)|(rcases hf with rfl|rfl|rfl<;>simp)|(rcases hf with rfl|rfl<;>simp)|(subst hf;simp)
theorem qi7(R:Req)(cav leafv:Value)(ht:R.tag.length=32)(op:Int)(l:List Fld)(hl:fieldsOf op=some l)(f:Fld)(hf:f∈l):
 (f.2.1=1∧f.1=1∧(reqv R cav leafv)[f.2.2]? =some (.int .i64 (R.num f.2.2)))∨(f.2.1=2∧f.1=4∧0≤R.num f.2.2∧(reqv R cav leafv)[f.2.2]? =some (.int .u32 (R.num f.2.2)))∨(f.2.1=3∧f.1=8∧0≤R.num f.2.2∧(reqv R cav leafv)[f.2.2]? =some (.int .u64 (R.num f.2.2)))∨f=(0,0,0):=by
 have hr:=qdk R cav leafv ht;have q:∀o k,o=35+k→(reqv R cav leafv)[o]? =(R.rest leafv)[k]? :=fun o k e=>by rw[e];exact hr k
 have h:=qi6 op l hl f hf;clear hf hl;unfold IsFld at h;focus
  rcases h with rfl|rfl|rfl|rfl|rfl|rfl|rfl|rfl|rfl|rfl|rfl|rfl|rfl
  · exact .inl ⟨rfl,rfl,q 35 0 rfl⟩
  · exact .inl ⟨rfl,rfl,q 36 1 rfl⟩
  · exact .inl ⟨rfl,rfl,q 37 2 rfl⟩
  · exact .inl ⟨rfl,rfl,q 38 3 rfl⟩
  · exact .inl ⟨rfl,rfl,q 39 4 rfl⟩
  · exact .inr (.inl ⟨rfl,rfl,Int.natCast_nonneg _,q 40 5 rfl⟩)
  · exact .inr (.inr (.inl ⟨rfl,rfl,Int.natCast_nonneg _,q 41 6 rfl⟩))
  · exact .inr (.inr (.inl ⟨rfl,rfl,Int.natCast_nonneg _,q 42 7 rfl⟩))
  · exact .inr (.inl ⟨rfl,rfl,Int.natCast_nonneg _,q 43 8 rfl⟩)
  · exact .inr (.inl ⟨rfl,rfl,Int.natCast_nonneg _,q 44 9 rfl⟩)
  · exact .inr (.inl ⟨rfl,rfl,Int.natCast_nonneg _,q 45 10 rfl⟩)
  · exact .inr (.inr (.inl ⟨rfl,rfl,Int.natCast_nonneg _,q 46 11 rfl⟩))
  exact .inr (.inr (.inr rfl))
theorem qi8(op:Int)(l:List Fld)(hl:fieldsOf op=some l):1≤op∧op≤12∧l.length≤4:=by
 unfold fieldsOf at hl;repeat' split at hl
 all_goals simp only[Option.some.injEq,reduceCtorEq]at hl
 all_goals (subst hl;refine⟨?_,?_,?_⟩<;>first|omega|simp)
theorem Wri.drew(h:Wri w B g bs):Wri w.drew B g bs:=h.kept_call ((tA5 _ _).drew)
theorem Wri.lt(h:Wri w B g bs):g<w.heap.size:=by
 obtain⟨v,h,-,-⟩:=h;exact h.lt
theorem qi9(R:Req)(l:List Fld)(k:Nat)(f:Fld)(hx:l[k]? =some f)(hall:∀f∈l.take k,qi0 R f=0)(hf:qi0 R f=0)(hb:fldB R f=bs)(acc:List Nat):
 (∀f∈l.take (k+1),qi0 R f=0)∧acc++(l.take (k+1)).flatMap (fldB R)=acc++(l.take k).flatMap (fldB R)++bs:=by
 rw[List.take_add_one,hx];refine⟨fun y hy=>?_,by simp[hb]⟩;rcases List.mem_append.1 hy with h|h
 · exact hall y h
 simp at h;rw[h];exact hf
theorem qia(R:Req)(f:Fld)(h:IsFld f):(fldB R f).length≤65540:=by
 have ht:(txt R.leaf).length≤65540:=by
  unfold txt;rw[tA6,qaw,tBd];omega
 have hb:∀a s,s≤8→(be a s).length≤65540:=fun a s h=>by rw[qaw];omega
 unfold IsFld at h;rcases h with rfl|rfl|rfl|rfl|rfl|rfl|rfl|rfl|rfl|rfl|rfl|rfl|rfl<;>unfold fldB<;>simp<;>first|exact ht|exact hb _ _ zo
theorem qib(R:Req)(n:Nat)(l:List Fld)(h:∀f∈l,IsFld f)(hl:l.length≤4)(k:Nat):(be n 1++(l.take k).flatMap (fldB R)).length≤4294967296:=by
 have key:∀l:List Fld,(∀f∈l,IsFld f)→(l.flatMap (fldB R)).length≤65540*l.length:=by
  intro l;induction l with
  |nil=>intro _;simp
  |cons f l ih=>
   intro h;rw[List.flatMap_cons,tA6,tBi];have h1:=qia R f (h f zm);have h2:=ih fun g hg=>h g (by simp[hg])
   omega
 have h1:=key (l.take k) fun f hf=>h f (tB7 hf)
 have h2:(l.take k).length≤l.length:=by rw[tBd];omega
 rw[tA6,qaw];omega
structure Req.Fit (R:Req):Prop where
 tag:R.tag.length=32
 num:∀o,R.num o<18446744073709551616
theorem qic(R:Req)(cav:Value)(Al:Option Addr)(cl:Nat)(w:World)(hR:R.Fit)(hleaf:Reads w w.heap.size 1 Al R.leaf.length (byv R.leaf))(hlc:R.leaf.length≤cl)(hc:cl≤maxLen):
 Zc 141 #[.agg (reqv R cav (.slice Al R.leaf.length cl)).toArray] w fun e w'=>∃v,e=.returned (.tuple #[v,.int .i64 ((qi2 R).1:Int)])∧w'.ownsRow w.heap.size 5 1 v (qi2 R).2.length (byv (qi2 R).2)∧Zb w w':=by
 unfold maxLen at hc;have hfc:=qi7 R cav (.slice Al R.leaf.length cl) hR.tag R.op;have hd47:=qdk R cav (.slice Al R.leaf.length cl) hR.tag 12;have hd0:(reqv R cav (.slice Al R.leaf.length cl))[0]? =some (.int .i64 R.op):=rfl;rw[show (R.rest (.slice Al R.leaf.length cl))[12]? =some (.slice Al R.leaf.length cl) from rfl]at hd47;obtain⟨D,hD⟩:=xeq ((reqv R cav (.slice Al R.leaf.length cl)).toArray);have hat:∀i,(reqv R cav (.slice Al R.leaf.length cl))[i]? =D[i]? :=fun i=>by rw[←hD];exact List.getElem?_toArray.symm
 rw[hat]at hd47 hd0;simp only[hat]at hfc;rw[hD];have A1:=zh1 hfc;clear hfc hat hD;have e1:qb0 1=1:=rfl;have e4:qb0 4=4:=rfl;have e8:qb0 8=8:=rfl;go_enter Tryz.func141,Tryz.ntmps141
 go_wp2_with fail
 have t0:Blk (w.alloc (.cells D 34)) w.heap.size 34 D:=Blk.new w _ D;refine(qe1 w.heap.size D R.op _ t0 hd0).mono ?_;rintro e w1 ⟨v,rfl,hown,hb1⟩;have B1:=qag (qah (tA5 w.heap.size w) (.cells D 34)) hb1;have t1:=t0.below hb1 t0.lt;have hz0:(w.alloc (.cells D 34)).heap.size=w.heap.size+1:=by simp
 try simp only[Zb,Zb]at hb1;rw[hz0]at hb1
 have hlf1:=(hleaf.alloc (tA4 _) (.cells D 34)).below (hb1.mono (Nat.le_succ _));obtain⟨o,ho⟩:=xeq (fieldsOf R.op);rw[ho]at hown ⊢;cases o with
 |none=>
  have H:Hid (qi2 R=(1,[])):=by unfold Hid qi2;rw[ho]
  go_wp2
  go_ret2
  exact⟨_,by rw[H.o];rfl,by rw[H.o];exact World.ownsRow_nil ..,B1⟩
 |some l=>
  have H:Hid (qi2 R=qi1 R l (be R.op.toNat 1)):=by unfold Hid qi2;rw[ho]
  obtain⟨o1,o2,hl4⟩:=qi8 R.op l ho;simp only[Option.getD_some,Option.isSome_some]at hown ⊢;obtain⟨A,c,rfl,hnc,hcm,hr1⟩:=qaf hown;go_wp2_with fail
  refine(qd2 _).mono ?_;rintro e w2 ⟨rfl,hw2,hb2⟩;obtain⟨W,hW⟩:=xeq w1.heap.size;rw[hW]at hw2 hr1;have hWl:w.heap.size<W:=by have:=t1.lt;omega
  have hb2':Below W w1 w2:=by rw[←hW];exact hb2
  rw[hW];have B2:=B1.trans (hb2'.mono zo);have t2:=t1.below hb2' hWl;have hr2:=hr1.below hb2';have hlf2:=hlf1.below (hb2'.mono zo);clear hb2 hb2' t0 t1 hb1 hown hr1 hlf1 hleaf;obtain⟨n,hn⟩:∃n:Nat,R.op=(n:Int):=⟨R.op.toNat,by omega⟩;have hn':R.op.toNat=n:=zo;rw[hn']at H;rw[hn]at o1 o2 hd0;have c0:=t2.cell 0;rw[hd0]at c0;go_wp2_with fail
  refine(qd1 W W n 1 [] _ hw2 zo zm).mono ?_;rintro e w3 ⟨rfl,hw3,hb3,-⟩;rw[e1,List.nil_append]at hw3;have B3:=B2.trans (hb3.mono zo);have t3:=t2.below hb3 hWl;have hr3:=hr2.below hb3;have hlf3:=hlf2.below (hb3.mono zo);clear hw2 hb3 t2 hr2 hlf2 c0 B2;go_wp2
  go_loopw [23] (fun i wr=>∃k:Nat,k≤l.length∧i=.int .i64 k∧(∀f∈l.take k,qi0 R f=0)∧Wri wr W W (be n 1++(l.take k).flatMap (fldB R))∧Below W w3 wr) (fun i _=>l.length - (intOf i).toNat)
  case atStart=>exact⟨0,by omega,rfl,by simp,by simpa using hw3,tA5 _ _⟩
  case round=>
   obtain⟨k,hk,rfl,hall,hwr,hbr⟩:=hrel;have tr:=t3.below hbr hWl;have hrr:=hr3.below hbr;have hlr:=hlf3.below (hbr.mono zo);have Hall:=zh1 hall;clear hall t3 hr3 hw3 hlf3;have A0:=zh1 (qib R n l (fun f hf=>qi6 R.op l ho f hf) hl4);by_cases hlt:k<l.length
   ·
    have hx:l[k]? =some l[k]:=tA7 hlt;obtain⟨f,hfe⟩:=xeq (l[k]);rw[hfe]at hx;clear hfe;have q:=qi5 w.heap.size l k f hx;have hF:=A1.o l ho f (tB2 hx);obtain⟨b,o,rfl,hab,hcell⟩:=hrr.mid zo zo;obtain⟨Hx,Ho⟩:=zh2 hx ho;clear hx ho hrr;rcases hF with⟨f1,f2,f3⟩|⟨f1,f2,f3,f4⟩|⟨f1,f2,f3,f4⟩|rfl
    ·
     have m0:=hcell (k*4+0) _ ((q 0 zo).trans (by unfold fldv;rw[if_pos f1];rfl));have m1:=hcell (k*4+1) _ ((q 1 zo).trans (by unfold fldv;rw[if_pos f1];rfl));have m2:=hcell (k*4+2) _ ((q 2 zo).trans (by unfold fldv;rw[if_pos f1];rfl));have m3:=hcell (k*4+3) _ ((q 3 zo).trans (by unfold fldv;rw[if_pos f1];rfl));clear q hcell;rw[f2]at m0;simp only[←Nat.add_assoc,Nat.add_zero]at m0 m1 m2 m3;obtain⟨g,q,x⟩:=f;simp only at f1 f2 f3 m0 m1 m2 m3;subst f1 f2;have cx:=tr.cell x;rw[f3]at cx;have hgl:=tr.lt;go_wp2_with fail
     refine(qhz _ _).mono ?_;rintro e w4 ⟨rfl,rfl⟩;by_cases hb:0≤R.num x∧R.num x≤255
     ·
      obtain⟨m,hm⟩:∃m:Nat,R.num x=(m:Int):=⟨(R.num x).toNat,by omega⟩;have Hst:Hid ((∀f∈l.take (k+1),qi0 R f=0)∧be n 1++(l.take (k+1)).flatMap (fldB R)=be n 1++(l.take k).flatMap (fldB R)++be m 1):=by
       refine qi9 R l k _ Hx.o Hall.o ?_ ?_ _
       · simp[qi0,hb]
       simp[fldB,hm]
      rw[hm]at hb cx;rw[hm,decide_eq_true hb];go_wp2_with fail
      have hwa:=(hwr.kept_call ((tA5 _ _).alloc (tA4 _) (.cells #[.int .i64 1,.pointer (some ⟨w.heap.size,x,none⟩),.pointer none,.pointer none] 252))).drew;have hsz:W≤wr.heap.size:=by have:=hbr.size;have:=hwr.lt;omega
      obtain⟨S,HS⟩:=zS fun w'=>w'.cell? ⟨wr.heap.size,0,none⟩=some (.int .i64 1)∧w'.cell? ⟨wr.heap.size,1,none⟩=some (.pointer (some ⟨w.heap.size,x,none⟩))∧w'.cell? ⟨w.heap.size,x,none⟩=some (.int .i64 (m:Int))
      refine zrs S 8 (zq 0 8 [(8,true)]) ((HS.o _).mpr ⟨qak wr _ _ 0,qak wr _ _ 1,qaj cx _⟩) ?_;repeat(refine zrt0 ?_)
      refine zw ?_;go_simp;refine(qd1 W W m 1 _ _ hwa zo (A0.o k)).mono ?_;rintro e w5 ⟨rfl,hw5,hb5,-⟩;rw[e1,←Hst.o.2]at hw5;obtain⟨HW,HB⟩:=zh2 hw5 ((hbr.alloc hsz (.cells #[.int .i64 1,.pointer (some ⟨w.heap.size,x,none⟩),.pointer none,.pointer none] 252)).drew.trans hb5);clear hw5 hb5 hwr hbr tr hwa HS m0 m1 m2 m3 cx;go_simp;refine qbf ?_;go_wp2
      go_roundw
      case rel=>exact⟨k+1,by omega,by go_num,Hst.o.1,HW.o,HB.o⟩
      case measure=>simp[intOf];omega
     have Hst:Hid (qi2 R=(1,[])):=by
      unfold Hid;rw[H.o,qi4 R l k _ _ Hall.o Hx.o]
      · simp[qi0,hb]
      simp[qi0,hb]
     rw[decide_eq_false hb];have HB:=zh1 ((B3.trans (hbr.mono zo)).alloc (by have:=hbr.size;omega) (.cells #[.int .i64 1,.pointer (some ⟨w.heap.size,x,none⟩),.pointer none,.pointer none] 252));go_wp2
     go_ret2
     exact⟨_,by rw[Hst.o];rfl,by rw[Hst.o];exact World.ownsRow_nil ..,HB.o⟩
    ·
     obtain⟨g,q0,x⟩:=f;simp only at f1 f2 f3 f4;subst f1 f2;have m0:=hcell (k*4+0) _ ((q 0 zo).trans rfl);have m1:=hcell (k*4+1) _ ((q 1 zo).trans rfl);have m2:=hcell (k*4+2) _ ((q 2 zo).trans rfl);have m3:=hcell (k*4+3) _ ((q 3 zo).trans rfl);clear q hcell;simp only[←Nat.add_assoc,Nat.add_zero]at m0 m1 m2 m3;have cx:=tr.cell x;rw[f4]at cx;have hgl:=tr.lt;obtain⟨m,hm⟩:∃m:Nat,R.num x=(m:Int):=⟨(R.num x).toNat,by omega⟩;have hm64:=hR.num x;have Hst:Hid ((∀f∈l.take (k+1),qi0 R f=0)∧be n 1++(l.take (k+1)).flatMap (fldB R)=be n 1++(l.take k).flatMap (fldB R)++be m 4):=by
      refine qi9 R l k _ Hx.o Hall.o ?_ ?_ _
      · simp[qi0]
      simp[fldB,hm]
     rw[hm]at cx hm64;go_wp2_with fail
     have hwa:=(hwr.kept_call ((tA5 _ _).alloc (tA4 _) (.cells #[.int .i64 4,.pointer none,.pointer (some ⟨w.heap.size,x,none⟩),.pointer none] 252))).drew;have hsz:W≤wr.heap.size:=by have:=hbr.size;have:=hwr.lt;omega
     obtain⟨S,HS⟩:=zS fun w'=>w'.cell? ⟨wr.heap.size,0,none⟩=some (.int .i64 4)∧w'.cell? ⟨wr.heap.size,2,none⟩=some (.pointer (some ⟨w.heap.size,x,none⟩))∧w'.cell? ⟨w.heap.size,x,none⟩=some (.int .u32 (m:Int))
     refine zrs S 8 (zq 0 8 [(8,true)]) ((HS.o _).mpr ⟨qak wr _ _ 0,qak wr _ _ 2,qaj cx _⟩) ?_;repeat(refine zrt0 ?_)
     refine zw ?_;go_simp;refine(qd1 W W m 4 _ _ hwa zo (A0.o k)).mono ?_;rintro e w5 ⟨rfl,hw5,hb5,-⟩;rw[e4,←Hst.o.2]at hw5;obtain⟨HW,HB⟩:=zh2 hw5 ((hbr.alloc hsz (.cells #[.int .i64 4,.pointer none,.pointer (some ⟨w.heap.size,x,none⟩),.pointer none] 252)).drew.trans hb5);clear hw5 hb5 hwr hbr tr hwa HS m0 m1 m2 m3 cx;go_simp;refine qbf ?_;go_wp2
     go_roundw
     case rel=>exact⟨k+1,by omega,by go_num,Hst.o.1,HW.o,HB.o⟩
     case measure=>simp[intOf];omega
    ·
     obtain⟨g,q0,x⟩:=f;simp only at f1 f2 f3 f4;subst f1 f2;have m0:=hcell (k*4+0) _ ((q 0 zo).trans rfl);have m1:=hcell (k*4+1) _ ((q 1 zo).trans rfl);have m2:=hcell (k*4+2) _ ((q 2 zo).trans rfl);have m3:=hcell (k*4+3) _ ((q 3 zo).trans rfl);clear q hcell;simp only[←Nat.add_assoc,Nat.add_zero]at m0 m1 m2 m3;have cx:=tr.cell x;rw[f4]at cx;have hgl:=tr.lt;obtain⟨m,hm⟩:∃m:Nat,R.num x=(m:Int):=⟨(R.num x).toNat,by omega⟩;have hm64:=hR.num x;have Hst:Hid ((∀f∈l.take (k+1),qi0 R f=0)∧be n 1++(l.take (k+1)).flatMap (fldB R)=be n 1++(l.take k).flatMap (fldB R)++be m 8):=by
      refine qi9 R l k _ Hx.o Hall.o ?_ ?_ _
      · simp[qi0]
      simp[fldB,hm]
     rw[hm]at cx hm64;go_wp2_with fail
     have hwa:=(hwr.kept_call ((tA5 _ _).alloc (tA4 _) (.cells #[.int .i64 8,.pointer none,.pointer none,.pointer (some ⟨w.heap.size,x,none⟩)] 252))).drew;have hsz:W≤wr.heap.size:=by have:=hbr.size;have:=hwr.lt;omega
     obtain⟨S,HS⟩:=zS fun w'=>w'.cell? ⟨wr.heap.size,0,none⟩=some (.int .i64 8)∧w'.cell? ⟨wr.heap.size,3,none⟩=some (.pointer (some ⟨w.heap.size,x,none⟩))∧w'.cell? ⟨w.heap.size,x,none⟩=some (.int .u64 (m:Int))
     refine zrs S 7 (zq 0 7 [(7,true)]) ((HS.o _).mpr ⟨qak wr _ _ 0,qak wr _ _ 3,qaj cx _⟩) ?_;repeat(refine zrt0 ?_)
     refine zw ?_;go_simp;refine(qd1 W W m 8 _ _ hwa zo (A0.o k)).mono ?_;rintro e w5 ⟨rfl,hw5,hb5,-⟩;rw[e8,←Hst.o.2]at hw5;obtain⟨HW,HB⟩:=zh2 hw5 ((hbr.alloc hsz (.cells #[.int .i64 8,.pointer none,.pointer none,.pointer (some ⟨w.heap.size,x,none⟩)] 252)).drew.trans hb5);clear hw5 hb5 hwr hbr tr hwa HS m0 m1 m2 m3 cx;go_simp;refine qbf ?_;go_wp2
     go_roundw
     case rel=>exact⟨k+1,by omega,by go_num,Hst.o.1,HW.o,HB.o⟩
     case measure=>simp[intOf];omega
    have m0:=hcell (k*4+0) _ ((q 0 zo).trans rfl);have m1:=hcell (k*4+1) _ ((q 1 zo).trans rfl);have m2:=hcell (k*4+2) _ ((q 2 zo).trans rfl);have m3:=hcell (k*4+3) _ ((q 3 zo).trans rfl);clear q hcell;simp only[←Nat.add_assoc,Nat.add_zero]at m0 m1 m2 m3;have cx:=tr.cell 47;rw[show D[47]? =some (.slice Al R.leaf.length cl) from hd47]at cx;have hgl:=tr.lt;have hsz:W≤wr.heap.size:=by have:=hbr.size;have:=hwr.lt;omega
    by_cases hb:256<R.leaf.length
    ·
     have Hst:Hid (qi2 R=(3,[])):=by
      unfold Hid;rw[H.o,qi4 R l k _ _ Hall.o Hx.o]
      · simp[qi0,hb]
      simp[qi0,hb]
     have HB:=zh1 ((B3.trans (hbr.mono zo)).alloc zo (.cells #[.int .i64 0,.pointer none,.pointer none,.pointer none] 252));go_wp2
     go_ret2
     exact⟨_,by rw[Hst.o];rfl,by rw[Hst.o];exact World.ownsRow_nil ..,HB.o⟩
    have Hst:Hid ((∀f∈l.take (k+1),qi0 R f=0)∧be n 1++(l.take (k+1)).flatMap (fldB R)=be n 1++(l.take k).flatMap (fldB R)++txt R.leaf):=by
     refine qi9 R l k _ Hx.o Hall.o ?_ ?_ _
     · simp[qi0,hb]
     simp[fldB]
    go_wp2_with fail
    have hwa:=hwr.kept_call ((tA5 _ _).alloc (tA4 _) (.cells #[.int .i64 0,.pointer none,.pointer none,.pointer none] 252));have hla:=(hlr.alloc zo (.cells #[.int .i64 0,.pointer none,.pointer none,.pointer none] 252)).more (show w.heap.size≤W by omega);refine(qd6 W W _ R.leaf Al R.leaf.length cl _ hwa (A0.o k) hla hlc hc).mono ?_;rintro e w5 ⟨rfl,hw5,hb5,-⟩;rw[←Hst.o.2]at hw5;obtain⟨HW,HB⟩:=zh2 hw5 ((hbr.alloc hsz (.cells #[.int .i64 0,.pointer none,.pointer none,.pointer none] 252)).trans hb5);clear hw5 hb5 hwr hbr tr hwa m0 m1 m2 m3 cx hla;go_wp2
    go_roundw
    case rel=>exact⟨k+1,by omega,by go_num,Hst.o.1,HW.o,HB.o⟩
    case measure=>simp[intOf];omega
   obtain rfl:k=l.length:=zo;have Hst:Hid (qi2 R=(0,be n 1++(l.take l.length).flatMap (fldB R))):=by
    unfold Hid;rw[H.o,qi3 R l l.length _ Hall.o,List.drop_length];rfl
   go_wp2_with fail
   refine(qd4 W W _ _ hwr (by have:=A0.o l.length;omega)).mono ?_;rintro e w6 ⟨v,rfl,hown6,hb6⟩;have hsz:W≤wr.heap.size:=by have:=hbr.size;have:=hwr.lt;omega
   obtain⟨HO,HB⟩:=zh2 (qde hown6 (show w.heap.size≤wr.heap.size by omega)) ((B3.trans (hbr.mono zo)).trans (hb6.mono zo));clear hown6 hb6 hwr hbr tr;go_wp2
   go_ret2
   exact⟨v,by rw[Hst.o];rfl,by rw[Hst.o];exact HO.o,HB.o⟩
def req0 (T:Tok)(op:Int):Req:=⟨op,T.1,T.2.1,T.2.2,0,0,0,0,0,0,0,0,0,0,0,0,[]⟩
def Req.put (R:Req)(o n:Nat):Req:=
 match o with
 |35=>{R with tree:=n}|36=>{R with tenant:=n}|37=>{R with role:=n}|38=>{R with state:=n}|39=>{R with weight:=n}|40=>{R with id:=n}
 |41=>{R with lo:=n}|42=>{R with hi:=n}|43=>{R with rate:=n}|44=>{R with burst:=n}|45=>{R with store:=n}|46=>{R with expires:=n}|_=>R
def qid (bs:List Nat):List Fld→RSt→Req→RSt × Req
 |[],s,R=>(s,R)
 |f::l,s,R=>
  if f.2.1=0 then qid bs l (qhn bs s 256).1 {R with leaf:=(qhn bs s 256).2}
  else qid bs l (rNum bs s f.1).1 (R.put f.2.2 (rNum bs s f.1).2)
def qie (bs:List Nat):RSt:=
 if (qh4 (qhn bs (0,none) 77).2).1=none then(qhn bs (0,none) 77).1 else qg5 (qhn bs (0,none) 77).1 (qhn bs (0,none) 77).1.1 12
def reqT (bs:List Nat):Tok:=(qh4 (qhn bs (0,none) 77).2).2
def qif (bs:List Nat):RSt × Req:=
 match fieldsOf ((rNum bs (qie bs) 1).2:Int) with
 |none=>(qg5 (rNum bs (qie bs) 1).1 (rNum bs (qie bs) 1).1.1 12,req0 (reqT bs) ((rNum bs (qie bs) 1).2:Int))
 |some l=>qid bs l (rNum bs (qie bs) 1).1 (req0 (reqT bs) ((rNum bs (qie bs) 1).2:Int))
def qig:Req:=req0 qgt 0
def qih (bs:List Nat):Option (Nat × Nat) × Req:=match rEnd bs (qif bs).1 with
 |none=>(none,(qif bs).2)
 |some x=>(some x,qig)
theorem qii(bs:List Nat)(s:RSt)(m:Nat)(h:∀x∈bs,x<256):(qhn bs s m).2.length≤65535:=by
 have h1:=qge bs (if (rNum bs s 2).1.2=none∧m<(rNum bs s 2).2 then(s.1,some (s.1,3)) else(rNum bs s 2).1) (rNum bs s 2).2;have h2:=qgg bs s 2 h;have e:(256:Nat)^2=65536:=by decide
 rw[e]at h2;unfold qhn;omega
theorem qij(bs:List Nat)(s7:RSt)(k:Nat)(h:rNum bs (qie bs) 1=(s7,k)):
 qif bs=qid bs ((fieldsOf (k:Int)).getD []) (if (fieldsOf (k:Int)).isSome then s7 else qg5 s7 s7.1 12) (req0 (reqT bs) (k:Int)):=by
 unfold qif;rw[h];cases hf:fieldsOf (k:Int) with
 |none=>simp only[hf];rfl
 |some l=>simp only[hf];rfl
theorem qik(T:Tok)(cav lv:Value)(k:Nat):(reqv (req0 T 0) cav lv).toArray.setIfInBounds 0 (.int .i64 (k:Int))=(reqv (req0 T (k:Int)) cav lv).toArray:=by
 simp[reqv,req0,Req.rest]
structure Req.Fine (R:Req):Prop where
 tag:R.tag.length=32
 tagb:∀b∈R.tag,b<256
 tid:R.tid<4294967296
 cavn:∀x∈R.cavs,x.2<4294967296
 cavl:R.cavs.length≤4
 leafb:∀b∈R.leaf,b<256
 leafl:R.leaf.length≤65535
def fldN (f:Fld)(n:Nat):Value:=if f.2.1=1 then .int .i64 (n:Int) else if f.2.1=2 then .int .u32 (n:Int) else .int .u64 (n:Int)
theorem qil(R:Req)(cav leafv:Value)(ht:R.tag.length=32)(k:Nat)(v:Value):(reqv R cav leafv).toArray.setIfInBounds (35+k) v=((Value.int .i64 R.op::tokv R.tid cav R.tag)++(R.rest leafv).set k v).toArray:=by
 have h:(Value.int .i64 R.op::tokv R.tid cav R.tag).length=35:=by rw[tBi,qdf _ _ _ ht]
 unfold reqv;rw[List.setIfInBounds_toArray,List.set_append_right _ _ zo,h];rw[show 35+k - 35=k by omega]
theorem qim(R:Req)(cav leafv:Value)(ht:R.tag.length=32)(f:Fld)(hf:IsFld f)(h0:f.2.1≠0)(n:Nat):
 (reqv R cav leafv).toArray.setIfInBounds f.2.2 (fldN f n)=(reqv (R.put f.2.2 n) cav leafv).toArray:=by
 have q:=qil R cav leafv ht;unfold IsFld at hf;rcases hf with rfl|rfl|rfl|rfl|rfl|rfl|rfl|rfl|rfl|rfl|rfl|rfl|rfl
 · exact(q 0 _).trans rfl
 · exact(q 1 _).trans rfl
 · exact(q 2 _).trans rfl
 · exact(q 3 _).trans rfl
 · exact(q 4 _).trans rfl
 · exact(q 5 _).trans rfl
 · exact(q 6 _).trans rfl
 · exact(q 7 _).trans rfl
 · exact(q 8 _).trans rfl
 · exact(q 9 _).trans rfl
 · exact(q 10 _).trans rfl
 · exact(q 11 _).trans rfl
 exact absurd rfl h0
theorem qin{f:Fld}(hf:IsFld f):(f.2.1=1∧f.1=1)∨(f.2.1=2∧f.1=4)∨(f.2.1=3∧f.1=8)∨f=(0,0,0):=by
 unfold IsFld at hf;rcases hf with rfl|rfl|rfl|rfl|rfl|rfl|rfl|rfl|rfl|rfl|rfl|rfl|rfl<;>simp
theorem qio(R:Req)(cav leafv:Value)(ht:R.tag.length=32)(f:Fld)(hf:IsFld f)(h0:f.2.1≠0):∃v,(reqv R cav leafv)[f.2.2]? =some v:=by
 have q:=qdk R cav leafv ht;unfold IsFld at hf;rcases hf with rfl|rfl|rfl|rfl|rfl|rfl|rfl|rfl|rfl|rfl|rfl|rfl|rfl
 · exact⟨_,(q 0).trans rfl⟩
 · exact⟨_,(q 1).trans rfl⟩
 · exact⟨_,(q 2).trans rfl⟩
 · exact⟨_,(q 3).trans rfl⟩
 · exact⟨_,(q 4).trans rfl⟩
 · exact⟨_,(q 5).trans rfl⟩
 · exact⟨_,(q 6).trans rfl⟩
 · exact⟨_,(q 7).trans rfl⟩
 · exact⟨_,(q 8).trans rfl⟩
 · exact⟨_,(q 9).trans rfl⟩
 · exact⟨_,(q 10).trans rfl⟩
 · exact⟨_,(q 11).trans rfl⟩
 exact absurd rfl h0
theorem qip(bs:List Nat)(l:List Fld)(j:Nat)(f:Fld)(s:RSt)(R:Req)(X:RSt × Req)(h:qid bs (l.drop j) s R=X)(hj:l[j]? =some f)(h0:f.2.1≠0):
 qid bs (l.drop (j+1)) (rNum bs s f.1).1 (R.put f.2.2 (rNum bs s f.1).2)=X:=by
 obtain⟨hlt,e⟩:=tA8 hj;rw[List.drop_eq_getElem_cons hlt,e]at h;rw[←h];show _=qid bs (f::l.drop (j+1)) s R;rw[qid,if_neg h0]
theorem qiq(bs:List Nat)(l:List Fld)(j:Nat)(f:Fld)(s:RSt)(R:Req)(X:RSt × Req)(h:qid bs (l.drop j) s R=X)(hj:l[j]? =some f)(h0:f.2.1=0):
 qid bs (l.drop (j+1)) (qhn bs s 256).1 {R with leaf:=(qhn bs s 256).2}=X:=by
 obtain⟨hlt,e⟩:=tA8 hj;rw[List.drop_eq_getElem_cons hlt,e]at h;rw[←h];show _=qid bs (f::l.drop (j+1)) s R;rw[qid,if_pos h0]
theorem qir(R:Req)(cav leafv v:Value)(l:List Nat)(ht:R.tag.length=32):(reqv R cav leafv).toArray.setIfInBounds 47 v=(reqv {R with leaf:=l} cav v).toArray:=
 (qil R cav leafv ht 12 v).trans rfl
theorem qis(R:Req)(o n:Nat):(R.put o n).tid=R.tid∧(R.put o n).cavs=R.cavs∧(R.put o n).tag=R.tag∧(R.put o n).leaf=R.leaf∧(R.put o n).op=R.op:=by
 unfold Req.put;split<;>exact⟨rfl,rfl,rfl,rfl,rfl⟩
theorem Req.Fine.put(h:R.Fine)(o n:Nat):(R.put o n).Fine:=by
 obtain⟨h1,h2,h3,h4,-⟩:=qis R o n;exact⟨by rw[h3];exact h.tag,by rw[h3];exact h.tagb,by rw[h1];exact h.tid,by rw[h2];exact h.cavn,by rw[h2];exact h.cavl,by rw[h4];exact h.leafb,by rw[h4];exact h.leafl⟩
structure Hd where
 tree:Int
 epoch:Int
 size:Nat
 clock:Nat
 root:List Nat
 tag:List Nat
 deriving DecidableEq
def Hd.zero:Hd:=⟨0,0,0,0,List.replicate 32 0,List.replicate 32 0⟩
def hdv (h:Hd):List Value:=.int .i64 h.tree::.int .i64 h.epoch::.int .u64 (h.size:Int)::.int .u64 (h.clock:Int)::(byv h.root++byv h.tag)
def hdB (h:Hd):List Nat:=be h.tree.toNat 1++(be h.epoch.toNat 4++(be h.size 8++(be h.clock 8++(h.root++h.tag))))
structure Hd.Ok (h:Hd):Prop where
 size:h.size<18446744073709551616
 clock:h.clock<18446744073709551616
 rootl:h.root.length=32
 rootb:∀x∈h.root,x<256
 tagl:h.tag.length=32
 tagb:∀x∈h.tag,x<256
structure Rsp where
 why:Int
 n:Nat
 bytes:List Nat
 hashes:List (List Nat)
 hd:Hd
 tok:Tok
def rspv (R:Rsp)(bv hv cav:Value):List Value:=.int .i64 R.why::.int .u64 (R.n:Int)::bv::hv::(hdv R.hd++tokv R.tok.1 cav R.tok.2.2)
structure Rsp.Ok (R:Rsp):Prop where
 n:R.n<18446744073709551616
 bytes:∀x∈R.bytes,x<256
 hashes:∀d∈R.hashes,d.length=32∧∀x∈d,x<256
 hd:R.hd.Ok
 tok:R.tok.Ok
theorem qit:qgt.Ok:=⟨by decide,fun c hc=>(nomatch hc),by simp[qgt],by intro x hx;simp[qgt]at hx;omega⟩
theorem Hd.zero_Ok:Hd.zero.Ok:=⟨by decide,by decide,by simp[Hd.zero],by intro x hx;simp[Hd.zero]at hx;omega,by simp[Hd.zero],by intro x hx;simp[Hd.zero]at hx;omega⟩
def qiu:Rsp:=⟨0,0,[],[],Hd.zero,qgt⟩
def tokR (t:Tok):Nat × List Nat:=qda t.1 t.2.1 t.2.2
def flagsOf (R:Rsp):Nat:=(if R.hd=Hd.zero then 0 else 1)+(if R.tok=qgt then 0 else 2)
def ansB (R:Rsp):List Nat:=
 be R.why.toNat 1++(be R.n 8++(txt R.bytes++(be R.hashes.length 1++(R.hashes.flatten++(be (flagsOf R) 1++((if R.hd=Hd.zero then [] else hdB R.hd)++(if R.tok=qgt then [] else txt (tokR R.tok).2)))))))
def Rsp.fits (R:Rsp):Bool:=decide (0≤R.why∧R.why≤255)&&decide (0≤R.hd.tree∧R.hd.tree≤255)&&decide (0≤R.hd.epoch∧R.hd.epoch≤2147483647)
def qiv (R:Rsp):Nat × List Nat:=
 if 255<R.hashes.length∨(tokR R.tok).1=4 then(4,[])
 else if 65536≤R.bytes.length then(3,[])
 else if R.fits=true∧(tokR R.tok).1=0 then(0,ansB R) else(1,[])
end Go.Proofs.YthomgopipiomhaaGreatDoor
