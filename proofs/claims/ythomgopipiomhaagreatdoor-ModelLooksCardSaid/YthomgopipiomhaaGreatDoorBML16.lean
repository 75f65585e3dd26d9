/- Lemmas. -/
import Derived.Test.YthomgopipiomhaaGreatDoorBML15
namespace Go.Proofs.YthomgopipiomhaaGreatDoor
open Go.RowKit
set_option linter.unusedVariables false
set_option linter.unusedSimpArgs false
set_option maxRecDepth 100000
set_option maxHeartbeats 32000000
variable {bs:List Nat}{s:Sta}{c:Cfg}{B g gw tb size n b k nq cq m:Nat}{col col' cc:Col}{W w w' w1 w2 w4:World}{xs:List Value}{A Ac Aq:Option Addr}{css:List (List Value)}{L:Loc}{R:Req}{t:Tre}{x:Ten}
theorem xcu(R:Req)(ht:R.tag.length=32):(qit R).2.length≤4294967400:=by
 have h1:=qiw R;have h2:=qe7 R.tid R.cavs R.tag ht;unfold qit;split
 · split
   · simp only[tA6,txt,tBi,List.length_nil,qaw,tBd]
     omega
   simp
 simp
theorem xcv(c:Cfg){S:Stp}(hr:S.r.Good)(h1:∀x∈S.cavs,x.2<4294967296)(h2:∀x∈S.cavs,(Lit.int .i64 x.1).wf=true)(h:bytesOf c S=some bs):bs.length≤140737488355328:=by
 have hg:=xby c hr h1 h2;unfold bytesOf at h;split at h
 · injection h with h
   rw[←h,tBd];omega
 split at h
 · injection h with h
   rw[←h];have:=xcu (xbl c S) hg.tag;omega
 cases h
theorem xcw(h:Sit W B w col g gw tb c s)(hc:c.Ok)(S:Stp)(cs:List Value)(hs:StpR w cs S)(h140:S.raw.length≤140737488351232):
 Zc 15 #[.pointer (some ⟨g,0,none⟩),.pointer (some ⟨gw,0,none⟩),.agg cs.toArray] w fun e w'=>∃v col',e=.returned v∧OwnB w' w.heap.size v (xbm c s S).2∧(∀g,v.ownBlock=some g→col' g=0)∧Sit W B w' col' g gw tb c (xbm c s S).1∧Rest w col w' col':=by
 obtain⟨AV,hAV⟩:=xeq (xbm c s S);rw[hAV];have c0:cs[0]? =some (.int .i64 S.kind)∧cs[52 - 1]? =some (.int .u32 (S.n:Int))∧cs.length=53∧(Lit.int .i64 S.kind).wf=true∧S.n<4294967296∧S.r.Good∧(∀x∈S.cavs,x.2<4294967296)∧(∀x∈S.cavs,(Lit.int .i64 x.1).wf=true)∧∀b∈S.raw,b<256:=by
  obtain⟨Ac,cc,Al,cl,Ak,ck,Ar,cr,rfl,hg,h1,h2,⟨k1,k2,k3,k4,k5⟩,⟨hr1,hr2,hr3,hr4⟩,h5,h6,h7⟩:=hs;exact⟨rfl,qns S _ _ _ _ hg.tag 2,qnq S _ _ _ _ hg.tag,h6,h5,hg,k4,k5,hr4⟩
 obtain⟨c0,c51,lC,hwf,hn32,good,k4,k5,hr4⟩:=c0;obtain⟨W0,hW0⟩:=eqx (w.alloc (.cells cs.toArray 44));have t0:=zNa hW0;have b0:=zMa hW0;obtain⟨kd,hkd⟩:=xeq S.kind;rw[hkd]at c0;have e0:=(t0.cell 0).trans (show cs.toArray[0]? =some (.int .i64 kd) by simpa using c0);have e51:=(t0.cell 51).trans (show cs.toArray[51]? =some (.int .u32 (S.n:Int)) by simpa using c51);obtain⟨A0,n0,k0,hw0,-⟩:=h.wld;have CB:=xct gw tb c A0 n0 k0 S cs W0 (hw0.call b0) hc (hs.stay b0.size (fun b hb=>b0.block b hb)) h140;obtain⟨HI,A7,A8,A4,A5,AC,A2,A1⟩:=zh8 (zI 44 lC) (qap t0 0 cs zjq) CB (h.call b0) b0 hW0 hAV hkd;obtain⟨HC,HN,AA,AB,LW⟩:=zh5 hc hn32 (fun(b:List Nat)(hb:bytesOf c S=some b)=>xbz c good k4 k5 hr4 hb) (fun(b:List Nat)(hb:bytesOf c S=some b)=>xcv c good k4 k5 hb) b0.size;clear CB hw0 h hs hAV hkd hc b0 hW0 t0 c0 c51 lC hwf hn32 good k4 k5 hr4;go_enter Tryz.func15,Tryz.ntmps15
 go_upto_region 1 with(fail)
 rw[←AC.o];by_cases h2:kd=2
 ·
  subst h2;go_wp2_with fail
  refine(qzv A4.o HC.o).mono ?_;rintro e w1 ⟨rfl,col1,s1,r1⟩;obtain⟨S1,R1⟩:=zh2 s1 ((Rest.of_below A5.o).trans r1);clear s1 r1;go_wp2
  go_ret
  have hav:=A2.o;unfold xbm at hav;rw[if_pos A1.o]at hav;refine⟨_,col1,rfl,?_,?_,?_,R1.o⟩
  · rw[←hav];exact OwnB.nil _ _
  · intro g hg;cases hg
  rw[←hav];exact S1.o
 by_cases h3:kd=3
 ·
  subst h3;go_wp2_with fail
  refine(qzw A4.o).mono ?_;rintro e w1 ⟨rfl,s1,r1⟩;obtain⟨S1,R1⟩:=zh2 s1 ((Rest.of_below A5.o).trans r1);clear s1 r1;go_wp2
  go_ret
  have hav:=A2.o;unfold xbm at hav;rw[if_neg (by rw[A1.o];decide),if_pos A1.o]at hav;refine⟨_,col,rfl,?_,?_,?_,R1.o⟩
  · rw[←hav];exact OwnB.nil _ _
  · intro g hg;cases hg
  rw[←hav];exact S1.o
 by_cases h4:kd=4
 ·
  subst h4;go_wp2_with fail
  refine(qzx A4.o S.n HN.o).mono ?_;rintro e w1 ⟨rfl,s1,r1⟩;obtain⟨S1,R1⟩:=zh2 s1 ((Rest.of_below A5.o).trans r1);clear s1 r1;go_wp2
  go_ret
  have hav:=A2.o;unfold xbm at hav;rw[if_neg (by rw[A1.o];decide),if_neg (by rw[A1.o];decide),if_pos A1.o]at hav;refine⟨_,col,rfl,?_,?_,?_,R1.o⟩
  · rw[←hav];exact OwnB.nil _ _
  · intro g hg;cases hg
  rw[←hav];exact S1.o
 by_cases h1:kd=1
 ·
  subst h1;go_wp2_with (refine zld A7.o zu44 HI.o ?_)
  refine A8.o.mono ?_;rintro e w1 ⟨v,bs,ok,rfl,ob,hy,hn,b1⟩;obtain⟨OB,S1,B1⟩:=zh3 ob (A4.call b1) (A5.trans (b1.mono LW.o));clear ob b1;cases hby:bytesOf c S with
  |none=>
   have hok:=hn hby;subst hok;have A3:=zh1 hby;clear hy hn hby;go_wp2
   go_ret
   have hav:=A2.o;unfold xbm at hav;rw[if_neg (by rw[A1.o];decide),if_neg (by rw[A1.o];decide),if_neg (by rw[A1.o];decide),if_pos (by rw[A1.o];decide),A3.o]at hav;refine⟨_,col,rfl,?_,?_,?_,Rest.of_below B1.o⟩
   · rw[←hav];exact OwnB.nil _ _
   · intro g hg;cases hg
   rw[←hav];exact S1.o
  |some b=>
   obtain⟨hok,hb⟩:=hy b hby;subst hok hb;obtain⟨A3,LB,BT⟩:=zh3 hby (AB.o bs hby) (AA.o bs hby);clear hy hn hby;obtain⟨A9,n9,c9,rfl,-,-,r9⟩:=OB.sl;have hn9:=qb4 r9;obtain⟨R9,N9⟩:=zh2 r9 (show n9≤140737488355328 by rw[←hn9];exact LB.o);clear r9 hn9;go_wp2_with fail
   refine(xc2 S1.o HC.o bs A9 n9 c9 R9.o N9.o BT.o).mono ?_;rintro e w2 ⟨v,col2,rfl,ov,hcol,s2,r2⟩;obtain⟨OV,A6,S2,R2,L2⟩:=zh5 ov hcol s2 ((Rest.of_below B1.o).trans r2) B1.size;clear ov hcol s2 r2;go_wp2
   go_ret
   have hav:=A2.o;unfold xbm at hav;rw[if_neg (by rw[A1.o];decide),if_neg (by rw[A1.o];decide),if_neg (by rw[A1.o];decide),if_pos (by rw[A1.o];decide),A3.o]at hav;refine⟨v,col2,rfl,?_,A6.o,?_,R2.o⟩
   · rw[←hav];exact OwnB.mono OV.o L2.o
   rw[←hav];exact S2.o
 by_cases h5:kd=5
 ·
  subst h5;go_wp2_with (refine zld A7.o zu44 HI.o ?_)
  refine A8.o.mono ?_;rintro e w1 ⟨v,bs,ok,rfl,ob,hy,hn,b1⟩;obtain⟨OB,S1,B1⟩:=zh3 ob (A4.call b1) (A5.trans (b1.mono LW.o));clear ob b1;cases hby:bytesOf c S with
  |none=>
   have hok:=hn hby;subst hok;have A3:=zh1 hby;clear hy hn hby;go_wp2
   go_ret
   have hav:=A2.o;unfold xbm at hav;rw[if_neg (by rw[A1.o];decide),if_neg (by rw[A1.o];decide),if_neg (by rw[A1.o];decide),if_pos (by rw[A1.o];decide),A3.o]at hav;refine⟨_,col,rfl,?_,?_,?_,Rest.of_below B1.o⟩
   · rw[←hav];exact OwnB.nil _ _
   · intro g hg;cases hg
   rw[←hav];exact S1.o
  |some b=>
   obtain⟨hok,hb⟩:=hy b hby;subst hok hb;obtain⟨A3,LB,BT⟩:=zh3 hby (AB.o bs hby) (AA.o bs hby);clear hy hn hby;obtain⟨A9,n9,c9,rfl,-,-,r9⟩:=OB.sl;have hn9:=qb4 r9;obtain⟨R9,N9⟩:=zh2 r9 (show n9≤140737488355328 by rw[←hn9];exact LB.o);clear r9 hn9;go_wp2_with fail
   refine(xc2 S1.o HC.o bs A9 n9 c9 R9.o N9.o BT.o).mono ?_;rintro e w2 ⟨v,col2,rfl,ov,hcol,s2,r2⟩;obtain⟨OV,A6,S2,R2,L2⟩:=zh5 ov hcol s2 ((Rest.of_below B1.o).trans r2) B1.size;clear ov hcol s2 r2;go_wp2
   go_ret
   have hav:=A2.o;unfold xbm at hav;rw[if_neg (by rw[A1.o];decide),if_neg (by rw[A1.o];decide),if_neg (by rw[A1.o];decide),if_pos (by rw[A1.o];decide),A3.o]at hav;refine⟨v,col2,rfl,?_,A6.o,?_,R2.o⟩
   · rw[←hav];exact OwnB.mono OV.o L2.o
   rw[←hav];exact S2.o
 go_wp2
 go_ret
 have hav:=A2.o;unfold xbm at hav;rw[if_neg (by rw[A1.o];exact h2),if_neg (by rw[A1.o];exact h3),if_neg (by rw[A1.o];exact h4),if_neg (by rw[A1.o];omega)]at hav;refine⟨_,col,rfl,?_,?_,?_,Rest.of_below A5.o⟩
 · rw[←hav];exact OwnB.nil _ _
 · intro g hg;cases hg
 rw[←hav];exact A4.o
def xcx (x y:Int)(st:Nat)(bs:List Nat):Cfg:={width:=1+within (wrap64 (x - 1)) 0 31,quantum:=1+within (wrap64 (y - 1)) 0 1,store:=st % 32769,seed:=bs.take 64}
theorem xcy(x y:Int)(st:Nat)(bs:List Nat)(hb:∀b∈bs,b<256):(xcx x y st bs).Ok:=by
 have h1:=qky (wrap64 (x - 1)) 0 31 zo;have h2:=qky (wrap64 (y - 1)) 0 1 zo;refine⟨?_,?_,?_,?_,?_,?_,?_⟩
 · show 1≤1+within (wrap64 (x - 1)) 0 31;omega
 · show 1+within (wrap64 (x - 1)) 0 31≤32;omega
 · show 1≤1+within (wrap64 (y - 1)) 0 1;omega
 · show 1+within (wrap64 (y - 1)) 0 1≤2;omega
 · show st % 32769≤32768;omega
 · show (bs.take 64).length≤64;rw[tBd];omega
 intro b h;exact hb b (tB7 h)
theorem xcz(x y:Int)(st:Nat)(A:Option Addr)(n k:Nat)(bs:List Nat)(w:World)(hr:Reads w w.heap.size 1 A n (byv bs))(hx: -9223372036854775808≤x∧x≤9223372036854775807)(hy: -9223372036854775808≤y∧y≤9223372036854775807)(hst:st<4294967296)(hnk:n≤k)(hn:n≤140737488351232):
 Zc 12 #[.agg #[.int .i64 x,.int .i64 y,.int .u32 (st:Int),.slice A n k]] w fun e w'=>∃A' n' k',e=.returned (.agg #[.int .i64 (xcx x y st bs).width,.int .i64 (xcx x y st bs).quantum,.int .u32 ((xcx x y st bs).store:Int),.slice A' n' k'])∧Reads w' w'.heap.size 1 A' n' (byv (xcx x y st bs).seed)∧(∀ad,A'=some ad→w.heap.size≤ad.block)∧Zb w w':=by
 refine(xbg x y st A n k bs w hr hx hy hst hnk hn).mono ?_;rintro e w' ⟨v,rfl,ho,hb⟩;obtain⟨A',n',k',rfl,-,-,r⟩:=ho.sl;refine⟨A',n',k',rfl,r,fun ad e=>?_,hb⟩;rcases ho.2 with⟨e',_⟩|⟨g,cap,cur,e',hb',_⟩
 · injection e' with e1 e2 e3
   rw[e1]at e;cases e
 injection e' with e1 e2 e3;rw[e1]at e;injection e with e;rw[←e];exact hb'
theorem xd0(h:Reads w w.heap.size size A n xs)(hg:w.grownBy w' (some b))(hA:∀ad,A=some ad→ad.block≠b):Reads w' w'.heap.size size A n xs:=
 ⟨h.1,fun hn=>by
  obtain⟨ad,e,hl,hc⟩:=h.2 hn;refine⟨ad,e,tB0 hl hg.size,fun j u hu=>?_⟩;refine(World.cell?_of_block ?_).trans (hc j u hu);rw[qa1];exact hg.block _ hl (fun e'=>by injection e' with e';exact hA ad e e')⟩
theorem xd1(hT:Tabs W)(hE:ErrT W)(b1:Zb W w1)(r1:Reads w1 w1.heap.size 1 A n (byv c.seed))
 (m2:Mdl w2 col 2 g c (newS c) L css)(z2:∀b,b<w1.heap.size→col b=0)(b2:Zb w1 w2)(wa4:WldAt w4 gw tb c A n k)(lg:w2.heap.size≤gw)(lt:w2.heap.size≤tb)(b4:Zb w2 w4):Sit W w4.heap.size w4 col g gw tb c (newS c):=by
 refine Sit.make qu2 m2 b4 wa4 lg lt (fun h0 ad e=>?_) hT hE (fun b hb=>z2 b (tB0 hb b1.size)) (b1.trans (b2.mono b1.size));obtain⟨ad',e',hlt,_⟩:=r1.2 h0;rw[e]at e';injection e' with e';subst e';exact z2 _ hlt
theorem WldAt.rest(h:WldAt w gw tb c A n k)(hr:Rest w col w' col')(g0:col gw=0)(t0:col tb=0)(hA:0<n→∀ad,A=some ad→col ad.block=0):WldAt w' gw tb c A n k:=
 ⟨hr.blk h.blk g0,Rest.blk hr h.tab t0,hr.reads h.seed hA⟩
def Req.cutAt (R:Req)(n:Nat):Req:={R with leaf:=R.leaf.take n}
theorem Req.Good.cutAt(h:R.Good)(n:Nat):(R.cutAt n).Good:={h with leafb:=fun b hb=>h.leafb b (tB7 hb)}
theorem Sit.boxed(h:Sit W B w col g gw tb c s)(hw:WldAt w gw tb c A n k)(hA:0<n→∀ad,A=some ad→(col ad.block=0∧ad.block<B)∧ad.block≠b)
 (hg:w.grownBy w' (some b))(h0:col b=0)(hb:W.heap.size≤b)(h1:gw≠b)(h2:tb≠b):Sit W B w' col g gw tb c s:=by
 obtain⟨L,css,h3⟩:=h.mdl;obtain⟨h4,h5,h6⟩:=h.base;have hT:Turns (· ==0) w col w' col:=Turns.of_grown hg (fun k e=>by injection e with e;rw[←e,h0];rfl) (fun _ _=>rfl);have hB:Below W.heap.size w w':=⟨hg.os,hg.tape,hg.output,hg.size,fun k hk=>hg.block k zo (fun e=>by injection e with e;omega)⟩;have hbl:∀k,k<w.heap.size→k≠b→w'.heap[k]? =w.heap[k]? :=fun k hk hne=>hg.block k hk (fun e=>by injection e with e;exact hne e)
 refine⟨h.ok,⟨L,css,h3.keep hT rfl rfl rfl rfl rfl (fun i hi=>by simp;omega) (h3.fin.mono hg.size)⟩,⟨A,n,k,⟨(hbl gw hw.blk.lt h1).trans hw.blk,(hbl tb (Blk.lt hw.tab) h2).trans hw.tab,⟨hw.seed.1,fun hn=>?_⟩⟩,fun hn ad e=>(hA hn ad e).1⟩,h.gws,h.tbs,h.tabs.below hB h4,?_,h.low,⟨h4,h5,tB1 h6 hg.size⟩,h.below.trans hB⟩
 · obtain⟨ad,e,hlt,hc⟩:=hw.seed.2 hn
   refine⟨ad,e,tB0 hlt hg.size,fun j u hu=>?_⟩;refine(World.cell?_of_block ?_).trans (hc j u hu);rw[qa1];exact hbl _ hlt (hA hn ad e).2
 exact(hB.cell (p:=⟨0,0,none⟩) (by show (0:Nat)<W.heap.size;exact tB0 (show (0:Nat)<3 from by decide) h4)).trans h.err
def xd2 (c:Cfg)(s:Sta)(l:List Stp):Sta:=l.foldl (fun s S=>(xbm c s S).1) s
theorem xd3{l:List Stp}{S:Stp}(h:l[k]? =some S):xd2 c s (l.take (k+1))=(xbm c (xd2 c s (l.take k)) S).1:=by
 obtain⟨hk,e⟩:=tA8 h;unfold xd2;rw[List.take_succ_eq_append_getElem hk,List.foldl_append,e];rfl
theorem xd4{cc:Nat}(hg:R.Good)(hrl:R.leaf.length=nq)(hnq:nq≤cq)(hcq:cq≤maxLen)(hl:Reads W W.heap.size 1 Aq nq (byv R.leaf))(hcv:Reads W W.heap.size 2 Ac R.cavs.length (cavv R.cavs))(hcc:R.cavs.length≤cc)(hcm:cc≤maxLen)
 (hb:Zb W w)(low:∀b,b<W.heap.size→col b=0):Asked w col (R.cutAt m) Ac cc Aq cq:=by
 have hk:(R.leaf.take m).length≤nq:=by rw[tBd,hrl];omega
 refine⟨hg.cutAt m,?_,tB1 hk hnq,hcq,hcv.call hb,hcc,hcm,fun h0 ad e=>?_,fun h0 ad e=>?_⟩
 ·
  show Reads w w.heap.size 1 Aq (R.leaf.take m).length (byv (R.leaf.take m));have h:=(hl.call hb).take hk;have e:(byv R.leaf).take ((R.leaf.take m).length*1)=byv (R.leaf.take m):=by
   have e2:R.leaf.take (min m R.leaf.length)=R.leaf.take m:=by
    rcases Nat.le_total m R.leaf.length with h|h
    · rw[Nat.min_eq_left h]
    rw[Nat.min_eq_right h,tB5 (tA4 _),tB5 h]
   rw[Nat.mul_one,tBd,←e2];simp[byv,List.map_take]
  rw[e]at h;exact h
 · obtain⟨ad',e',hlt,_⟩:=hl.2 (tB0 h0 hk)
   rw[e]at e';injection e' with e';subst e';exact low _ hlt
 obtain⟨ad',e',hlt,_⟩:=hcv.2 h0;rw[e]at e';injection e' with e';subst e';exact low _ hlt
structure CpAt (w:World)(col cc:Col)(L:Loc)(css:List (List Value))(s:Sta):Prop where
 st:StAt 92 74 66 w cc 2 L css s
 own:∀b,cc b≠0→b<w.heap.size∧col b=0
theorem CpAt.rest(h:CpAt w col cc L css s)(hr:Rest w col w' col'):CpAt w' col' cc L css s:=by
 have K:∀i,i≠0→KeepsCol i w cc w' cc:=fun i hi=>⟨hr.size,fun b hb e=>⟨(hr.block b hb (h.own b zo).2).1,e⟩⟩
 refine⟨⟨h.st.tens.keep (K _ zdc),h.st.tres.keep (K _ zdc),h.st.gras.keep (K _ zdc),h.st.trs.keep fun i hi=>K i zo⟩,fun b hb=>?_⟩;have h1:=h.own b hb;exact⟨tB0 h1.1 hr.size,(hr.block b h1.1 h1.2).2⟩
theorem CpAt.call(h:CpAt w col cc L css s)(hb:Zb w w'):CpAt w' col cc L css s:=h.rest (Rest.of_below hb)
theorem xd5(h:Sit W B w col g gw tb c s):
 Zc 16 #[.pointer (some ⟨g,0,none⟩)] w fun e w'=>∃cc L css,e=.returned (.agg (stav s L).toArray)∧CpAt w' col cc L css s∧Zb w w'∧Sit W B w' col g gw tb c s:=by
 refine(xbc h).mono ?_;rintro e w' ⟨cc,L,css,rfl,h1,h2,h3,h4⟩;exact⟨cc,L,css,rfl,⟨h1,fun b hb=>⟨(h2 b hb).2,h.new0 (h2 b hb).1⟩⟩,h3,h4⟩
theorem xdf(A1 A2:Option Addr)(n c m d:Nat)(xs ys:List Nat)(w:World)(h1:Reads w w.heap.size 1 A1 n (drwv xs))(h2:Reads w w.heap.size 1 A2 m (drwv ys))(hn:n≤1000)(hm:m≤1000):
 Zc 83 #[.slice A1 n c,.slice A2 m d] w fun e w'=>e=.returned (.bool (decide (xs=ys)))∧Zb w w':=by
 have l1:xs.length=n:=by have:=h1.1;simpa [drwv] using this
 have l2:ys.length=m:=by have:=h2.1;simpa [drwv] using this
 obtain⟨B0,L1,L2,H1,H2⟩:=zh5 (tA5 w.heap.size w) l1 l2 h1 h2;go_enter Tryz.func83,Tryz.ntmps83
 by_cases hnm:n=m
 ·
  subst hnm;clear l1 l2 h1 h2;go_wp2_with fail
  go_loopw [13] (fun i wr=>∃k:Nat,k≤n∧i=.int .i64 k∧Hid (xs.take k=ys.take k)∧Hid (Zb w wr)) (fun i _=>n - (intOf i).toNat)
  case atStart=>exact⟨0,by omega,rfl,zh1 rfl,B0⟩
  case round=>
   obtain⟨k,hk,rfl,ht,hb⟩:=hrel;by_cases hlt:k<n
   ·
    have p1:(k:Int)<n:=zo;obtain⟨x,hx⟩:∃x,xs[k]? =some x:=⟨_,tA7 (by rw[L1.o];exact hlt)⟩;obtain⟨y,hy⟩:∃y,ys[k]? =some y:=⟨_,tA7 (by rw[L2.o];exact hlt)⟩;obtain⟨b1,o1,e1,-,c1⟩:=H1.mid zo zdc;obtain⟨b2,o2,e2,-,c2⟩:=H2.mid zo zdc;subst e1 e2;obtain⟨C1,C2⟩:=zh2 (c1 k (.int .u32 (x:Int)) (by unfold drwv;rw[tBj,hx];rfl)) (c2 k (.int .u32 (y:Int)) (by unfold drwv;rw[tBj,hy];rfl));have HE:=zh1 (show x=y→xs.take (k+1)=ys.take (k+1) from fun h=>by
     rw[List.take_add_one,List.take_add_one,hx,hy,ht.o,h])
    have HF:=zh1 (show x≠y→decide (xs=ys)=false from fun h=>by
     refine decide_eq_false fun e=>h ?_
     rw[e,hy]at hx;injection hx with hx;exact hx.symm)
    clear hx hy c1 c2;go_upto_region 6 with(fail)
    obtain⟨S,HS⟩:=zS fun w'=>Zb w w'
    refine zrs S 9 (zq 0 9 []) ((HS.o _).mpr hb.drew) ?_;obtain⟨F0,F1,HB⟩:=zh3 (zF HS C1.o) (zF HS C2.o) hb.drew;by_cases hxy:x=y
    ·
     subst hxy;iterate 9 (refine zr2 ?_)
     refine qbf ?_;clear HS F0 F1;have A0:=zh1 (HE.o rfl);clear HE;go_wp2
     go_roundw
     case rel=>exact⟨k+1,by omega,by go_num,A0,HB⟩
     case measure=>simp[intOf];omega
    have hxy2:¬(x:Int)=y:=zo;have hxy3:((x:Int)==y)=false:=by simp;omega
    have A3:=zh1 (HF.o hxy);clear HF HE;iterate 9 (refine zr2 ?_)
    refine qbf ?_;clear HS F0 F1 hxy;go_wp2
    go_ret
    exact⟨by rw[A3.o];rfl,HB.o⟩
   obtain rfl:k=n:=zo;have HF:=zh1 (show decide (xs=ys)=true from decide_eq_true (by
    have h:=ht.o;rwa[tB5 (by rw[L1.o];exact tA4 _),tB5 (by rw[L2.o];exact tA4 _)]at h))
   have p1:¬(k:Int)<k:=zo;go_wp2
   go_ret
   exact⟨by rw[HF.o];rfl,hb.o⟩
 have HF:=zh1 (show decide (xs=ys)=false from decide_eq_false fun e=>hnm (by rw[←l1,←l2,e]));have p1:¬(n:Int)=m:=zo;have p2:((n:Int)==m)=false:=by simp;omega
 clear l1 l2 h1 h2;go_wp2
 go_ret
 exact⟨by rw[HF.o];rfl,B0.o⟩
theorem xdg(A1 A2:Option Addr)(n c m d:Nat)(xs ys:List (List Nat))(w:World)(h1:TextsR w A1 n xs)(h2:TextsR w A2 m ys)(b1:∀b∈xs,∀x∈b,x<256)(b2:∀b∈ys,∀x∈b,x<256)(hn:n≤2000)(hm:m≤2000):
 Zc 80 #[.slice A1 n c,.slice A2 m d,.func (.func 81) #[] #[]] w fun e w'=>e=.returned (.bool (decide (xs=ys)))∧w=w':=by
 have l1:=h1.1;have l2:=h2.1;obtain⟨L1,L2,H1,H2,BB⟩:=zh5 l1 l2 h1 h2 (And.intro b1 b2);go_enter Tryz.func80,Tryz.ntmps80
 by_cases hnm:n=m
 ·
  subst hnm;clear l1 l2 h1 h2 b1 b2;go_wp2_with fail
  go_loop [17] (fun i=>∃k:Nat,k≤n∧i=.int .i64 k∧Hid (xs.take k=ys.take k)) (fun i=>n - (intOf i).toNat)
  case atStart=>exact⟨0,by omega,rfl,zh1 rfl⟩
  case round=>
   obtain⟨k,hk,rfl,ht⟩:=hrel;by_cases hlt:k<n
   ·
    have p1:(k:Int)<n:=zo;obtain⟨g1,o1,x,A3,n3,c3,e1,-,hx,c1,-,-,r1⟩:=H1.at_ hlt;obtain⟨g2,o2,y,A4,n4,c4,e2,-,hy,c2,-,-,r2⟩:=H2.at_ hlt;subst e1 e2;have CE:=qqu x y A3 A4 n3 c3 n4 c4 w (BB.o.1 x (tB2 hx)) (BB.o.2 y (tB2 hy)) r1 r2;have HE:=zh1 (show (x==y)=true→xs.take (k+1)=ys.take (k+1) from fun h=>by
     rw[List.take_add_one,List.take_add_one,hx,hy,ht.o,eq_of_beq h])
    have HF:=zh1 (show (x==y)=false→decide (xs=ys)=false from fun h=>by
     refine decide_eq_false fun e=>?_
     rw[e,hy]at hx;injection hx with hx;rw[hx]at h;simp at h)
    obtain⟨bq,hbq⟩:=xeq (x==y);rw[hbq]at CE HE HF;have A0:=zh1 CE;clear hx hy r1 r2 CE hbq;go_wp2_with fail
    refine A0.o.mono ?_;rintro e w' ⟨rfl,rfl⟩;cases bq with
    |true=>
     have A5:=zh1 (show xs.take (k+1)=ys.take (k+1) by have:=HE.o;simpa using this);clear HE HF;go_wp2
     go_round
     case rel=>exact⟨k+1,by omega,by go_num,A5⟩
     case measure=>simp[intOf];omega
    |false=>
     have A6:=zh1 (show decide (xs=ys)=false by have:=HF.o;simpa using this);clear HE HF;go_wp2
     go_ret
     exact⟨by rw[A6.o];rfl,rfl⟩
   obtain rfl:k=n:=zo;have HF:=zh1 (show decide (xs=ys)=true from decide_eq_true (by
    have h:=ht.o;rwa[tB5 (by rw[L1.o];exact tA4 _),tB5 (by rw[L2.o];exact tA4 _)]at h))
   have p1:¬(k:Int)<k:=zo;go_wp2
   go_ret
   exact⟨by rw[HF.o];rfl,rfl⟩
 have HF:=zh1 (show decide (xs=ys)=false from decide_eq_false fun e=>hnm (by rw[←l1,←l2,e]));have p1:¬(n:Int)=m:=zo;have p2:((n:Int)==m)=false:=by simp;omega
 clear l1 l2 h1 h2 b1 b2;go_wp2
 go_ret
 exact⟨by rw[HF.o];rfl,rfl⟩
theorem xdh(A1 A2:Option Addr)(n c m d:Nat)(xs ys:List (List Nat))(w:World)(h1:TextsR w A1 n xs)(h2:TextsR w A2 m ys)(b1:∀b∈xs,∀x∈b,x<256)(b2:∀b∈ys,∀x∈b,x<256)(hn:n≤2000)(hm:m≤2000):
 Zc 79 #[.slice A1 n c,.slice A2 m d] w fun e w'=>e=.returned (.bool (decide (xs=ys)))∧w=w':=by
 have H:=zh1 (xdg A1 A2 n c m d xs ys w h1 h2 b1 b2 hn hm);clear h1 h2 b1 b2;go_enter Tryz.func79,Tryz.ntmps79
 go_wp2_with fail
 refine H.o.mono ?_;rintro e w' ⟨rfl,rfl⟩;go_wp2
 go_ret
 exact⟨rfl,rfl⟩
theorem xdi(t u:Tre):(t.state=u.state∧t.tenant=u.tenant∧t.weight=u.weight∧t.deficit=u.deficit∧t.hd=u.hd∧t.draws=u.draws∧t.leaves=u.leaves∧t.queue=u.queue) ↔ t=u:=by
 cases t
 cases u
 simp only[Tre.mk.injEq];constructor
 · rintro ⟨a,b,c,d,e,f,g,h⟩
   simp_all
 intro h;simp_all
instance decTre:DecidableEq Tre:=fun t u=>decidable_of_iff _ (xdi t u)
theorem xdj{u:Tre}(h:¬(t.state=u.state∧t.tenant=u.tenant∧t.weight=u.weight∧t.deficit=u.deficit∧t.hd=u.hd∧t.draws=u.draws∧t.leaves=u.leaves∧t.queue=u.queue)):decide (t=u)=false:=decide_eq_false fun e=>h ((xdi t u).2 e)
theorem xdk(t u:Tre)(tk1:t.Ok)(uk1:u.Ok)(A1 A2 A3 B1 B2 B3:Option Addr)(c1 c2 c3 d1 d2 d3 p:Nat)(w:World)(hp:w.cell? ⟨p,0,none⟩=some (.func (.func 79) #[] #[]))(r1:Reads w w.heap.size 1 A1 t.draws.length (drwv t.draws))(s1:Reads w w.heap.size 1 B1 u.draws.length (drwv u.draws))
 (r2:TextsR w A2 t.leaves.length t.leaves)(s2:TextsR w B2 u.leaves.length u.leaves)(r3:TextsR w A3 t.queue.length t.queue)(s3:TextsR w B3 u.queue.length u.queue):
 Zc 82 #[.agg (trev t (.slice A1 t.draws.length c1) (.slice A2 t.leaves.length c2) (.slice A3 t.queue.length c3)).toArray,.agg (trev u (.slice B1 u.draws.length d1) (.slice B2 u.leaves.length d2) (.slice B3 u.queue.length d3)).toArray,.pointer (some ⟨p,0,none⟩)] w fun e w'=>e=.returned (.bool (decide (t=u)))∧Zb w w':=by
 obtain⟨C0,C1,C2,no,yes⟩:=zh5 (fun(W:World)(hb:Zb w W)=>xdf A1 B1 t.draws.length c1 u.draws.length d1 t.draws u.draws W (r1.call hb) (s1.call hb) (by have:=tk1.draws;omega) (by have:=uk1.draws;omega)) (fun(W:World)(hb:Zb w W)=>xdh A2 B2 t.leaves.length c2 u.leaves.length d2 t.leaves u.leaves W (r2.call hb) (s2.call hb) (fun b hb=>(tk1.leafb b hb).2) (fun b hb=>(uk1.leafb b hb).2) (by have:=tk1.leaves;omega) (by have:=uk1.leaves;omega)) (fun(W:World)(hb:Zb w W)=>xdh A3 B3 t.queue.length c3 u.queue.length d3 t.queue u.queue W (r3.call hb) (s3.call hb) (fun b hb=>(tk1.queueb b hb).2) (fun b hb=>(uk1.queueb b hb).2) (by have:=tk1.queue;omega) (by have:=uk1.queue;omega)) (fun h=>xdj (t:=t) (u:=u) h) ((xdi t u).1);have lD:=qnj (t:=t) (.slice A1 t.draws.length c1) (.slice A2 t.leaves.length c2) (.slice A3 t.queue.length c3) tk1.hd;have lE:=qnj (t:=u) (.slice B1 u.draws.length d1) (.slice B2 u.leaves.length d2) (.slice B3 u.queue.length d3) uk1.hd;have hD:=fun j=>quh t (.slice A1 t.draws.length c1) (.slice A2 t.leaves.length c2) (.slice A3 t.queue.length c3) j
 have hE:=fun j=>quh u (.slice B1 u.draws.length d1) (.slice B2 u.leaves.length d2) (.slice B3 u.queue.length d3) j
 have keq:=fun w'=>qlt w' t.hd u.hd tk1.hd uk1.hd
 have l7:(hdv t.hd).length=68:=qni tk1.hd;have l8:(hdv u.hd).length=68:=qni uk1.hd;have D0:(trev t (.slice A1 t.draws.length c1) (.slice A2 t.leaves.length c2) (.slice A3 t.queue.length c3)).toArray[0]? =some (.int .i64 t.state):=by rw[tA3];rfl
 have D1:(trev t (.slice A1 t.draws.length c1) (.slice A2 t.leaves.length c2) (.slice A3 t.queue.length c3)).toArray[1]? =some (.int .i64 t.tenant):=by rw[tA3];rfl
 have D2:(trev t (.slice A1 t.draws.length c1) (.slice A2 t.leaves.length c2) (.slice A3 t.queue.length c3)).toArray[2]? =some (.int .i64 t.weight):=by rw[tA3];rfl
 have D3:(trev t (.slice A1 t.draws.length c1) (.slice A2 t.leaves.length c2) (.slice A3 t.queue.length c3)).toArray[3]? =some (.int .i64 t.deficit):=by rw[tA3];rfl
 have D4:(trev t (.slice A1 t.draws.length c1) (.slice A2 t.leaves.length c2) (.slice A3 t.queue.length c3)).toArray[4]? =some (.slice A1 t.draws.length c1):=by rw[tA3];rfl
 have D5:(trev t (.slice A1 t.draws.length c1) (.slice A2 t.leaves.length c2) (.slice A3 t.queue.length c3)).toArray[5]? =some (.slice A2 t.leaves.length c2):=by rw[tA3];rfl
 have D6:(trev t (.slice A1 t.draws.length c1) (.slice A2 t.leaves.length c2) (.slice A3 t.queue.length c3)).toArray[6]? =some (.slice A3 t.queue.length c3):=by rw[tA3];rfl
 have E0:(trev u (.slice B1 u.draws.length d1) (.slice B2 u.leaves.length d2) (.slice B3 u.queue.length d3)).toArray[0]? =some (.int .i64 u.state):=by rw[tA3];rfl
 have E1:(trev u (.slice B1 u.draws.length d1) (.slice B2 u.leaves.length d2) (.slice B3 u.queue.length d3)).toArray[1]? =some (.int .i64 u.tenant):=by rw[tA3];rfl
 have E2:(trev u (.slice B1 u.draws.length d1) (.slice B2 u.leaves.length d2) (.slice B3 u.queue.length d3)).toArray[2]? =some (.int .i64 u.weight):=by rw[tA3];rfl
 have E3:(trev u (.slice B1 u.draws.length d1) (.slice B2 u.leaves.length d2) (.slice B3 u.queue.length d3)).toArray[3]? =some (.int .i64 u.deficit):=by rw[tA3];rfl
 have E4:(trev u (.slice B1 u.draws.length d1) (.slice B2 u.leaves.length d2) (.slice B3 u.queue.length d3)).toArray[4]? =some (.slice B1 u.draws.length d1):=by rw[tA3];rfl
 have E5:(trev u (.slice B1 u.draws.length d1) (.slice B2 u.leaves.length d2) (.slice B3 u.queue.length d3)).toArray[5]? =some (.slice B2 u.leaves.length d2):=by rw[tA3];rfl
 have E6:(trev u (.slice B1 u.draws.length d1) (.slice B2 u.leaves.length d2) (.slice B3 u.queue.length d3)).toArray[6]? =some (.slice B3 u.queue.length d3):=by rw[tA3];rfl
 obtain⟨D,hDD⟩:=xeq (trev t (.slice A1 t.draws.length c1) (.slice A2 t.leaves.length c2) (.slice A3 t.queue.length c3));obtain⟨E,hEE⟩:=xeq (trev u (.slice B1 u.draws.length d1) (.slice B2 u.leaves.length d2) (.slice B3 u.queue.length d3));simp only[hDD]at lD hD D0 D1 D2 D3 D4 D5 D6;simp only[hEE]at lE hE E0 E1 E2 E3 E4 E5 E6;rw[hDD,hEE];obtain⟨H,hH⟩:=xeq (hdv t.hd);obtain⟨K,hK⟩:=xeq (hdv u.hd);simp only[hH]at hD keq l7;simp only[hK]at hE keq l8;obtain⟨W0,hW0⟩:=eqx ((w.alloc (.cells D.toArray 74)).alloc (.cells E.toArray 74));have b1:=zNb hW0;have b2:=zNc hW0;have bb:=zMb hW0;have hr1:W0.rangeAt w.heap.size 7 H:=qap b1 7 H (fun j v hv=>by simpa using (hD j).trans hv);have hr2:W0.rangeAt (w.heap.size+1) 7 K:=qap b2 7 K (fun j v hv=>by simpa using (hE j).trans hv);have x0:=(b1.cell 0).trans D0;have y0:=(b2.cell 0).trans E0;have x1:=(b1.cell 1).trans D1;have y1:=(b2.cell 1).trans E1;have x2:=(b1.cell 2).trans D2;have y2:=(b2.cell 2).trans E2;have x3:=(b1.cell 3).trans D3;have y3:=(b2.cell 3).trans E3;have x4:=(b1.cell 4).trans D4;have y4:=(b2.cell 4).trans E4;have x5:=(b1.cell 5).trans D5;have y5:=(b2.cell 5).trans E5;have x6:=(b1.cell 6).trans D6;have y6:=(b2.cell 6).trans E6;have xp:=qai hp bb;obtain⟨A5,BB,R7,R8,I7,I8⟩:=zh6 hW0 bb hr1 hr2 (zI 55 l7) (zI 55 l8);obtain⟨bh,hbh⟩:=xeq (decide (t.hd=u.hd));rw[hbh]at keq;obtain⟨A0,SC⟩:=zh2 hbh (show ∀(b:Bool),decide (t=u)=b→∃c,decide (t=u)=c from fun b h=>⟨b,h⟩);obtain⟨a1,ha1⟩:=xeq t.state;obtain⟨a2,ha2⟩:=xeq t.tenant;obtain⟨a3,ha3⟩:=xeq t.weight;obtain⟨a4,ha4⟩:=xeq t.deficit;obtain⟨e1,he1⟩:=xeq u.state;obtain⟨e2,he2⟩:=xeq u.tenant;obtain⟨e3,he3⟩:=xeq u.weight;obtain⟨e4,he4⟩:=xeq u.deficit;rw[ha1]at x0;rw[ha2]at x1;rw[ha3]at x2;rw[ha4]at x3;rw[he1]at y0;rw[he2]at y1;rw[he3]at y2;rw[he4]at y3;have NO:=no;rw[ha1,ha2,ha3,ha4,he1,he2,he3,he4]at NO;have A4:=yes;rw[ha1,ha2,ha3,ha4,he1,he2,he3,he4]at A4;clear no yes hp r1 s1 r2 s2 r3 s3 tk1 uk1 lD lE hD hE l7 l8 D0 D1 D2 D3 D4 D5 D6 E0 E1 E2 E3 E4 E5 E6 hDD hEE hH hK hW0 b1 b2 bb hr1 hr2 hbh ha1 ha2 ha3 ha4 he1 he2 he3 he4 SC;go_enter Tryz.func82,Tryz.ntmps82
 go_upto_region 1 with(fail)
 rw[←A5.o];by_cases q0:a1=e1
 rotate_left
 · have HF:=zh1 (NO.o (fun h=>q0 h.1))
   have qq:(a1==e1)=false:=by simpa using q0
   go_wp2
   go_ret
   exact⟨by rw[HF.o];rfl,BB.o⟩
 subst q0;by_cases q1:a2=e2
 rotate_left
 · have HF:=zh1 (NO.o (fun h=>q1 h.2.1))
   have qq:(a2==e2)=false:=by simpa using q1
   go_wp2
   go_ret
   exact⟨by rw[HF.o];rfl,BB.o⟩
 subst q1;by_cases q2:a3=e3
 rotate_left
 · have HF:=zh1 (NO.o (fun h=>q2 h.2.2.1))
   have qq:(a3==e3)=false:=by simpa using q2
   go_wp2
   go_ret
   exact⟨by rw[HF.o];rfl,BB.o⟩
 subst q2;by_cases q3:a4=e4
 rotate_left
 · have HF:=zh1 (NO.o (fun h=>q3 h.2.2.2.1))
   have qq:(a4==e4)=false:=by simpa using q3
   go_wp2
   go_ret
   exact⟨by rw[HF.o];rfl,BB.o⟩
 subst q3;cases bh with
 |false=>
  have HF:=zh1 (NO.o (fun h=>of_decide_eq_false A0.o h.2.2.2.2.1));go_wp2_with (first
   |(refine zld R7.o zu55 I7.o ?_)
   |(refine zld R8.o zu55 I8.o ?_))
  go_ret
  exact⟨by rw[HF.o];rfl,BB.o⟩
 |true=>
  go_wp2_with (first
   |(refine zld R7.o zu55 I7.o ?_)
   |(refine zld R8.o zu55 I8.o ?_))
  refine zcb (C0.o W0 BB.o) fun w1 bw1=>?_
  have xp1:=qai xp bw1;have x51:=qai x5 bw1;have y51:=qai y5 bw1;have x61:=qai x6 bw1;have y61:=qai y6 bw1;have B1':=zh1 (BB.trans (bw1.mono BB.size));clear bw1;cases hbd:decide (t.draws=u.draws) with
  |false=>
   have HF:=zh1 (NO.o (fun h=>of_decide_eq_false hbd h.2.2.2.2.2.1));clear hbd;go_wp2
   go_ret
   exact⟨by rw[HF.o];rfl,B1'.o⟩
  |true=>
   have A6:=zh1 (of_decide_eq_true hbd);clear hbd;go_wp2_with fail
   refine(C1.o w1 B1'.o).mono ?_;rintro e w' ⟨rfl,rfl⟩;cases hbl:decide (t.leaves=u.leaves) with
   |false=>
    have HF:=zh1 (NO.o (fun h=>of_decide_eq_false hbl h.2.2.2.2.2.2.1));clear hbl;go_wp2
    go_ret
    exact⟨by rw[HF.o];rfl,B1'.o⟩
   |true=>
    have A7:=zh1 (of_decide_eq_true hbl);clear hbl;go_wp2_with fail
    refine(C2.o w1 B1'.o).mono ?_;rintro e w' ⟨rfl,rfl⟩;cases hbq:decide (t.queue=u.queue) with
    |false=>
     have HF:=zh1 (NO.o (fun h=>of_decide_eq_false hbq h.2.2.2.2.2.2.2));clear hbq;go_wp2
     go_ret
     exact⟨by rw[HF.o];rfl,B1'.o⟩
    |true=>
     have HT:=zh1 (show decide (t=u)=true from decide_eq_true (A4.o ⟨by first|rfl|trivial,by first|rfl|trivial,by first|rfl|trivial,by first|rfl|trivial,of_decide_eq_true A0.o,A6.o,A7.o,of_decide_eq_true hbq⟩));clear hbq;go_wp2
     go_ret
     exact⟨by rw[HT.o];rfl,B1'.o⟩
def TreesR (w:World)(A:Option Addr)(n:Nat)(ts:List Tre):Prop:=
 ts.length=n∧∀(i:Nat) (t:Tre),ts[i]? =some t→t.Ok∧∃g o A1 c1 A2 c2 A3 c3,A=some ⟨g,o,none⟩∧w.rangeAt g (o+i*75) (trev t (.slice A1 t.draws.length c1) (.slice A2 t.leaves.length c2) (.slice A3 t.queue.length c3))∧
  Reads w w.heap.size 1 A1 t.draws.length (drwv t.draws)∧TextsR w A2 t.leaves.length t.leaves∧TextsR w A3 t.queue.length t.queue
theorem TreesR.call{ts:List Tre}(h:TreesR w A n ts)(hb:Zb w w'):TreesR w' A n ts:=
 ⟨h.1,fun i t ht=>by
  obtain⟨o,g,of,A1,c1,A2,c2,A3,c3,e,r,r1,r2,r3⟩:=h.2 i t ht;exact⟨o,g,of,A1,c1,A2,c2,A3,c3,e,fun j u hu=>qai (r j u hu) hb,r1.call hb,r2.call hb,r3.call hb⟩⟩
theorem xdl(A B:Option Addr)(n c m d p:Nat)(xs ys:List Tre)(w:World)(h1:TreesR w A n xs)(h2:TreesR w B m ys)(hn:n≤100)(hm:m≤100)(hp:w.cell? ⟨p,0,none⟩=some (.func (.func 79) #[] #[])):
 Zc 86 #[.slice A n c,.slice B m d,.func (.func 82) #[] #[.pointer (some ⟨p,0,none⟩)]] w fun e w'=>e=.returned (.bool (decide (xs=ys)))∧Zb w w':=by
 have l1:=h1.1;have l2:=h2.1;obtain⟨B0,L1,L2,H1,H2,HP,A4⟩:=zh7 (tA5 w.heap.size w) l1 l2 h1 h2 hp (show Tryz.zeroCells74.size=75 by kernel_rfl);clear hp;go_enter Tryz.func86,Tryz.ntmps86
 by_cases hnm:n=m
 ·
  subst hnm;clear l1 l2 h1 h2;go_wp2_with fail
  go_loopw [17] (fun i wr=>∃k:Nat,k≤n∧i=.int .i64 k∧Hid (xs.take k=ys.take k)∧Hid (Zb w wr)) (fun i _=>n - (intOf i).toNat)
  case atStart=>exact⟨0,by omega,rfl,zh1 rfl,B0⟩
  case round=>
   obtain⟨k,hk,rfl,ht,hb⟩:=hrel;by_cases hlt:k<n
   ·
    have q1:(k:Int)<n:=zo;obtain⟨x,hx⟩:∃x,xs[k]? =some x:=⟨_,tA7 (by rw[L1.o];exact hlt)⟩;obtain⟨y,hy⟩:∃y,ys[k]? =some y:=⟨_,tA7 (by rw[L2.o];exact hlt)⟩;obtain⟨xo,g1,o1,A1,c1,A2,c2,A3,c3,e1,r1,x1,x2,x3⟩:=(H1.call hb.o).2 k x hx;obtain⟨yo,g2,o2,B1,d1,B2,d2,B3,d3,e2,r2,y1,y2,y3⟩:=(H2.call hb.o).2 k y hy;subst e1 e2;have CT:=fun(W:World)(hB:Zb wr W)=>xdk x y xo yo A1 A2 A3 B1 B2 B3 c1 c2 c3 d1 d2 d3 p W (qai (qai HP.o hb.o) hB) (x1.call hB) (y1.call hB) (x2.call hB) (y2.call hB) (x3.call hB) (y3.call hB)
    have lX:=qnj (t:=x) (.slice A1 x.draws.length c1) (.slice A2 x.leaves.length c2) (.slice A3 x.queue.length c3) xo.hd;have lY:=qnj (t:=y) (.slice B1 y.draws.length d1) (.slice B2 y.leaves.length d2) (.slice B3 y.queue.length d3) yo.hd;have oX:=qqk x (.slice A1 x.draws.length c1) (.slice A2 x.leaves.length c2) (.slice A3 x.queue.length c3) rfl rfl rfl;have oY:=qqk y (.slice B1 y.draws.length d1) (.slice B2 y.leaves.length d2) (.slice B3 y.queue.length d3) rfl rfl rfl;obtain⟨X,hX⟩:=xeq (trev x (.slice A1 x.draws.length c1) (.slice A2 x.leaves.length c2) (.slice A3 x.queue.length c3));obtain⟨Y,hY⟩:=xeq (trev y (.slice B1 y.draws.length d1) (.slice B2 y.leaves.length d2) (.slice B3 y.queue.length d3));simp only[hX,hY]at CT;rw[hX]at lX oX r1;rw[hY]at lY oY r2;have HE:=zh1 (show decide (x=y)=true→xs.take (k+1)=ys.take (k+1) from fun h=>by
     rw[List.take_add_one,List.take_add_one,hx,hy,ht.o,of_decide_eq_true h])
    have HF:=zh1 (show decide (x=y)=false→decide (xs=ys)=false from fun h=>by
     refine decide_eq_false fun e=>of_decide_eq_false h ?_
     rw[e,hy]at hx;injection hx with hx;exact hx.symm)
    obtain⟨IX,IY,LX,LY,OX,OY,RX,RY⟩:=zh8 (zI 74 lX) (zI 74 lY) lX lY oX oY r1 r2;obtain⟨A6,N1⟩:=zh2 CT (Blk.new wr 74 Tryz.zeroCells74);clear hx hy r1 r2 x1 x2 x3 y1 y2 y3 xo yo CT lX lY oX oY hX hY;go_upto_region 6 with(first
     |(refine zld RX.o zu74 IX.o ?_)
     |(refine zst N1.o IX.o (A4.trans (by simp[LX.o])) OX.o ?_))
    obtain⟨W1,hW1⟩:=eqx ((wr.alloc (.cells Tryz.zeroCells74 74)).setRow wr.heap.size X.toArray);rw[←hW1];have z1:Blk W1 wr.heap.size 74 X.toArray:=by rw[hW1];exact(Blk.new _ _ _).setRow _
    have b1:Zb wr W1:=by rw[hW1];exact below_setRow ((tA5 _ _).alloc (tA4 _) _) (tA4 _) _
    obtain⟨G1,hG1⟩:=xeq wr.heap.size;obtain⟨Z1,A5,A7,N2⟩:=zh4 z1 b1 (show W1.rangeAt g2 (o2+k*75) Y from fun j u hu=>qai (RY.o j u hu) b1) (Blk.new W1 74 Tryz.zeroCells74);clear hW1 z1 b1 hG1 N1;go_upto_region 7 with(first
     |(refine zld A7.o zu74 IY.o ?_)
     |(refine zst N2.o IY.o (A4.trans (by simp[LY.o])) OY.o ?_))
    obtain⟨W2,hW2⟩:=eqx ((W1.alloc (.cells Tryz.zeroCells74 74)).setRow W1.heap.size Y.toArray);rw[←hW2];have z2:Blk W2 W1.heap.size 74 Y.toArray:=by rw[hW2];exact(Blk.new _ _ _).setRow _
    have b2:Zb W1 W2:=by rw[hW2];exact below_setRow ((tA5 _ _).alloc (tA4 _) _) (tA4 _) _
    have z1:=Z1.below b2 Z1.lt;obtain⟨R1,R2,A0⟩:=zh3 (qap z1 0 X zjq) (qap z2 0 Y zjq) (A5.trans (b2.mono A5.size));clear hW2 z2 b2 z1 N2;go_wp2_with (first
     |(refine zld R1.o zu74 IX.o ?_)
     |(refine zld R2.o zu74 IY.o ?_))
    refine zcb (A6.o W2 A0.o) fun w3 b3=>?_
    have HB:=zh1 (hb.trans ((A0.trans (b3.mono A0.size)).mono hb.size));clear b3;cases hbq:decide (x=y) with
    |true=>
     have A8:=zh1 (HE.o hbq);clear hbq HE HF;go_wp2
     go_roundw
     case rel=>exact⟨k+1,by omega,by go_num,A8,HB⟩
     case measure=>simp[intOf];omega
    |false=>
     have A9:=zh1 (HF.o hbq);clear hbq HE HF;go_wp2
     go_ret
     exact⟨by rw[A9.o];rfl,HB.o⟩
   obtain rfl:k=n:=zo;have HF:=zh1 (show decide (xs=ys)=true from decide_eq_true (by
    have h:=ht.o;rwa[tB5 (by rw[L1.o];exact tA4 _),tB5 (by rw[L2.o];exact tA4 _)]at h))
   have q1:¬(k:Int)<k:=zo;go_wp2
   go_ret
   exact⟨by rw[HF.o];rfl,hb.o⟩
 have HF:=zh1 (show decide (xs=ys)=false from decide_eq_false fun e=>hnm (by rw[←l1,←l2,e]));have p1:¬(n:Int)=m:=zo;have p2:((n:Int)==m)=false:=by simp;omega
 clear l1 l2 h1 h2;go_wp2
 go_ret
 exact⟨by rw[HF.o];rfl,B0.o⟩
theorem xdm(s t:Sta):(s.clock=t.clock∧s.draw=t.draw∧s.lane=t.lane∧s.tens=t.tens∧s.gras=t.gras∧s.tres=t.tres) ↔ s=t:=by
 cases s
 cases t
 simp only[Sta.mk.injEq];constructor
 · rintro ⟨a,b,c,d,e,f⟩
   simp_all
 intro h;simp_all
instance decSta:DecidableEq Sta:=fun s t=>decidable_of_iff _ (xdm s t)
theorem xdn{t:Sta}(h:¬(s.clock=t.clock∧s.draw=t.draw∧s.lane=t.lane∧s.tens=t.tens∧s.gras=t.gras∧s.tres=t.tres)):decide (s=t)=false:=decide_eq_false fun e=>h ((xdm s t).2 e)
def StR (w:World)(V:List Value)(s:Sta):Prop:=
 ∃At nt ct Ar nr cr Ag ng cg,V=[.int .u64 (s.clock:Int),.int .u32 (s.draw:Int),.int .i64 s.lane,.slice At nt ct,.slice Ar nr cr,.slice Ag ng cg]∧
  Reads w w.heap.size 6 At nt (s.tens.flatMap tenv)∧nt≤1000∧TreesR w Ar nr s.tres∧nr≤100∧Reads w w.heap.size 4 Ag ng (s.gras.flatMap grav)∧ng≤1000
theorem xdo(V U:List Value)(s t:Sta)(w:World)(h1:StR w V s)(h2:StR w U t):
 Zc 31 #[.agg V.toArray,.agg U.toArray] w fun e w'=>e=.returned (.bool (decide (s=t)))∧Below w.heap.size w w':=by
 have hmf:=zmf;obtain⟨At,nt,ct,Ar,nr,cr,Ag,ng,cg,e,v1,v2,v3,v4,v5,v6⟩:=h1;obtain⟨Bt,mt,dt,Br,mr,dr,Bg,mg,dg,e',u1,u2,u3,u4,u5,u6⟩:=h2;obtain⟨C0,C1,C2,NO,A0⟩:=zh5 (fun(W:World)(hb:Below w.heap.size w W)=>xdd At Bt nt ct mt dt s.tens t.tens W (v1.call hb) (u1.call hb) v2 u2) (fun(W:World)(hb:Below w.heap.size w W)=>xde Ag Bg ng cg mg dg s.gras t.gras W (v5.call hb) (u5.call hb) v6 u6) (fun (W:World) (p:Nat) (hb:Below w.heap.size w W) hp=>xdl Ar Br nr cr mr dr p s.tres t.tres W (v3.call hb) (u3.call hb) v4 u4 hp) (fun h=>xdn (s:=s) (t:=t) h) ((xdm s t).1);subst e e';obtain⟨a1,ha1⟩:∃x:Int,(s.clock:Int)=x:=⟨_,rfl⟩;obtain⟨a2,ha2⟩:∃x:Int,(s.draw:Int)=x:=⟨_,rfl⟩;obtain⟨a3,ha3⟩:=xeq s.lane;obtain⟨e1,he1⟩:∃x:Int,(t.clock:Int)=x:=⟨_,rfl⟩;obtain⟨e2,he2⟩:∃x:Int,(t.draw:Int)=x:=⟨_,rfl⟩;obtain⟨e3,he3⟩:=xeq t.lane;rw[ha1,ha2,ha3,he1,he2,he3];obtain⟨K1,K2,K3,BR⟩:=zh4 (show a1=e1 ↔ s.clock=t.clock by omega) (show a2=e2 ↔ s.draw=t.draw by omega) (show a3=e3 ↔ s.lane=t.lane by rw[ha3,he3]) (tA5 w.heap.size w);clear v1 v2 v3 v4 v5 v6 u1 u2 u3 u4 u5 u6 ha1 ha2 ha3 he1 he2 he3;obtain⟨W0,hW0⟩:=eqx ((w.alloc (.cells #[.int .u64 a1,.int .u32 a2,.int .i64 a3,.slice At nt ct,.slice Ar nr cr,.slice Ag ng cg] 49)).alloc (.cells #[.int .u64 e1,.int .u32 e2,.int .i64 e3,.slice Bt mt dt,.slice Br mr dr,.slice Bg mg dg] 49));have s0:W0.heap.size=w.heap.size+1+1:=by rw[hW0,qar,qar]
 have b1:=zNb hW0;have b2:=zNc hW0;have bb:=zMb hW0;have f0:Blk (W0.alloc (.cells #[.nilFunc] 161)) (w.heap.size+1+1) 161 #[.nilFunc]:=by
  have h:=Blk.new W0 161 #[.nilFunc];rw[s0]at h;exact h
 obtain⟨W1,hW1⟩:=eqx ((W0.alloc (.cells #[.nilFunc] 161)).setCell ⟨w.heap.size+1+1,0,none⟩ (.func (.func 79) #[] #[]));have hst:(store ⟨w.heap.size+1+1,0,none⟩ (.func (.func 79) #[] #[])).run Tryz.prog (W0.alloc (.cells #[.nilFunc] 161))=.ok () W1:=by
  rw[run_store Tryz.prog _ _ _ _ (by rfl),f0.cell 0,f0.frozen 0,hW1];rfl
 have cf:Blk W1 (w.heap.size+1+1) 161 #[.func (.func 79) #[] #[]]:=by
  rw[hW1];exact f0.set_ 0 _
 have b01:Below W0.heap.size W0 W1:=by
  rw[hW1];exact(qah (tA5 _ _) _).setCell (by rw[s0];exact tA4 _) _
 have z1:=b1.below b01 b1.lt;have z2:=b2.below b01 b2.lt;have x0:W1.cell? ⟨w.heap.size,0,none⟩=some (.int .u64 a1):=z1.cell 0;have x1:W1.cell? ⟨w.heap.size,1,none⟩=some (.int .u32 a2):=z1.cell 1;have x2:W1.cell? ⟨w.heap.size,2,none⟩=some (.int .i64 a3):=z1.cell 2;have x3:W1.cell? ⟨w.heap.size,3,none⟩=some (.slice At nt ct):=z1.cell 3;have x4:W1.cell? ⟨w.heap.size,4,none⟩=some (.slice Ar nr cr):=z1.cell 4;have x5:W1.cell? ⟨w.heap.size,5,none⟩=some (.slice Ag ng cg):=z1.cell 5;have y0:W1.cell? ⟨w.heap.size+1,0,none⟩=some (.int .u64 e1):=z2.cell 0;have y1:W1.cell? ⟨w.heap.size+1,1,none⟩=some (.int .u32 e2):=z2.cell 1;have y2:W1.cell? ⟨w.heap.size+1,2,none⟩=some (.int .i64 e3):=z2.cell 2;have y3:W1.cell? ⟨w.heap.size+1,3,none⟩=some (.slice Bt mt dt):=z2.cell 3;have y4:W1.cell? ⟨w.heap.size+1,4,none⟩=some (.slice Br mr dr):=z2.cell 4;have y5:W1.cell? ⟨w.heap.size+1,5,none⟩=some (.slice Bg mg dg):=z2.cell 5;have hpf:=(cf.cell 0).trans (show (#[.func (.func 79) #[] #[]]:Array Value)[0]? =some (.func (.func 79) #[] #[]) from rfl);obtain⟨BW,A1⟩:=zh2 (bb.trans (b01.mono bb.size)) hpf;rw[hW0]at hst;clear hW0 s0 b1 b2 bb f0 hW1 cf b01 z1 z2 hpf BR;go_enter Tryz.func31,Tryz.ntmps31
 by_cases q0:a1=e1
 rotate_left
 · have HF:=zh1 (NO.o (fun h=>q0 (K1.o.2 h.1)))
   have qq:(a1==e1)=false:=by simpa using q0
   go_wp2
   go_ret
   exact⟨by rw[HF.o];rfl,BW.o⟩
 have Q0:=zh1 (K1.o.1 q0);subst q0;by_cases q1:a2=e2
 rotate_left
 · have HF:=zh1 (NO.o (fun h=>q1 (K2.o.2 h.2.1)))
   have qq:(a2==e2)=false:=by simpa using q1
   go_wp2
   go_ret
   exact⟨by rw[HF.o];rfl,BW.o⟩
 have Q1:=zh1 (K2.o.1 q1);subst q1;by_cases q2:a3=e3
 rotate_left
 · have HF:=zh1 (NO.o (fun h=>q2 (K3.o.2 h.2.2.1)))
   have qq:(a3==e3)=false:=by simpa using q2
   go_wp2
   go_ret
   exact⟨by rw[HF.o];rfl,BW.o⟩
 have Q2:=zh1 (K3.o.1 q2);subst q2;go_wp2_with fail
 refine zcb (C0.o W1 BW.o) fun w2 bw2=>?_
 have x52:=qai x5 bw2;have y52:=qai y5 bw2;have x42:=qai x4 bw2;have y42:=qai y4 bw2;obtain⟨hp2,B2⟩:=zh2 (qai A1.o bw2) (BW.trans (bw2.mono BW.size));clear bw2;cases h1:decide (s.tens=t.tens) with
 |false=>
  have HF:=zh1 (NO.o (fun h=>of_decide_eq_false h1 h.2.2.2.1));clear h1;go_wp2
  go_ret
  exact⟨by rw[HF.o];rfl,B2.o⟩
 |true=>
  have H1:=zh1 (of_decide_eq_true h1);clear h1;go_wp2_with fail
  refine zcb (C1.o w2 B2.o) fun w3 bw3=>?_
  have x43:=qai x42 bw3;have y43:=qai y42 bw3;obtain⟨hp3,B3⟩:=zh2 (qai hp2.o bw3) (B2.trans (bw3.mono B2.size));clear bw3;cases h2:decide (s.gras=t.gras) with
  |false=>
   have HF:=zh1 (NO.o (fun h=>of_decide_eq_false h2 h.2.2.2.2.1));clear h2;go_wp2
   go_ret
   exact⟨by rw[HF.o];rfl,B3.o⟩
  |true=>
   have H2:=zh1 (of_decide_eq_true h2);clear h2;go_wp2_with fail
   refine zcb (C2.o w3 _ B3.o hp3.o) fun w4 bw4=>?_
   have B4:=zh1 (B3.trans (bw4.mono B3.size));clear bw4;cases h3:decide (s.tres=t.tres) with
   |false=>
    have HF:=zh1 (NO.o (fun h=>of_decide_eq_false h3 h.2.2.2.2.2));clear h3;go_wp2
    go_ret
    exact⟨by rw[HF.o];rfl,B4.o⟩
   |true=>
    have HT:=zh1 (show decide (s=t)=true from decide_eq_true (A0.o ⟨Q0.o,Q1.o,Q2.o,H1.o,H2.o,of_decide_eq_true h3⟩));clear h3;go_wp2
    go_ret
    exact⟨by rw[HT.o];rfl,B4.o⟩
theorem CpAt.stR(h:CpAt w col cc L css s)(hs:s.Ok):StR w (stav s L) s:=by
 refine⟨some ⟨L.tg,0,none⟩,16,L.tc,some ⟨L.rg,0,none⟩,16,L.rc,some ⟨L.gg,0,none⟩,s.gras.length,L.gc,rfl,h.st.tens.reads,by decide,⟨hs.tresn,fun i t ht=>?_⟩,by decide,h.st.gras.reads,by have:=hs.grasn;omega⟩;obtain⟨hn,Ad,cd,Al,cl,Aq,cq,h1,h2,h3,h4,h5⟩:=h.st.tree hs ht;obtain⟨A0,c0,e0,-,-,r0,-⟩:=h3.sl;obtain⟨A1,c1,e1,-,-,r1⟩:=h4.reads;obtain⟨A2,c2,e2,-,-,r2⟩:=h5.reads;injection e0 with e01 e02 e03;injection e1 with e11 e12 e13;injection e2 with e21 e22 e23;subst e01 e03 e11 e13 e21 e23;refine⟨hs.tre ht,L.rg,0,Ad,cd,Al,cl,Aq,cq,rfl,fun j u hu=>?_,r0,r1,r2⟩;have:=h2 j u hu;rwa[Nat.zero_add]
theorem CpAt.tenSet(h:CpAt w col cc L css s)(hs:s.Ok)(hx:s.tens[0]? =some x)(v:Nat):
 CpAt (w.setCell ⟨L.tg,3,none⟩ (.int .u32 (v:Int))) col cc L css (s.setX 0 fun x=>{x with tok:=v}):=by
 obtain⟨hn,_⟩:=tA8 hx;have hT:Turns (· ==2) w cc (w.setCell ⟨L.tg,3,none⟩ (.int .u32 (v:Int))) cc:=Turns.setCell _ (by simp[h.st.tens.1]);have k1:∀i,i≠2→KeepsCol i w cc (w.setCell ⟨L.tg,3,none⟩ (.int .u32 (v:Int))) cc:=fun i hi=>hT.keeps (by simpa using hi)
 refine⟨⟨?_,h.st.tres.keep (k1 _ zdc),h.st.gras.keep (k1 _ zdc),h.st.trs.keep fun i hi=>k1 i zo⟩,fun b hb=>?_⟩
 · have h1:=h.st.tens.over (o:=0*6+3) (cs:=[.int .u32 (v:Int)]) (by rw[qnm,hs.tensn];simp)
   rw[qno (f:=fun x=>{x with tok:=v}) hn zm (fun y hy=>by rw[hx]at hy;injection hy with hy;subst hy;rfl)]at h1;exact h1
 have h2:=h.own b hb;exact⟨tB0 h2.1 hT.size,h2.2⟩
theorem xdp(h:Sit W B w col g gw tb c s):
 Zc 16 #[.pointer (some ⟨g,0,none⟩)] w fun e w'=>∃cc L css,e=.returned (.agg (stav s L).toArray)∧CpAt w' col cc L css s∧w.heap.size≤L.tg∧Zb w w'∧Sit W B w' col g gw tb c s:=by
 refine(xbc h).mono ?_;rintro e w' ⟨cc,L,css,rfl,h1,h2,h3,h4⟩;exact⟨cc,L,css,rfl,⟨h1,fun b hb=>⟨(h2 b hb).2,h.new0 (h2 b hb).1⟩⟩,(h2 L.tg (by rw[h1.tens.1];decide)).1,h3,h4⟩
theorem CpAt.beside(h:CpAt w col cc L css s)(hb:cc b=0)(i:Nat)(v:Value):CpAt (w.setCell ⟨b,i,none⟩ v) col cc L css s:=by
 have hT:Turns (· ==0) w cc (w.setCell ⟨b,i,none⟩ v) cc:=Turns.setCell _ (by simp[hb]);have K:∀i',i'≠0→KeepsCol i' w cc (w.setCell ⟨b,i,none⟩ v) cc:=fun i' hi=>hT.keeps (by simpa using hi)
 refine⟨⟨h.st.tens.keep (K _ zdc),h.st.tres.keep (K _ zdc),h.st.gras.keep (K _ zdc),h.st.trs.keep fun i hi=>K i zo⟩,fun b hb=>?_⟩;have h1:=h.own b hb;exact⟨tB0 h1.1 hT.size,h1.2⟩
theorem xdq(hx:s.tens[0]? =some x):((s.setX 0 fun y=>{y with tok:=y.tok - 1}).setX 0 fun y=>{y with tok:=x.tok})=s:=by
 obtain⟨clock,draw,lane,tens,tres,gras⟩:=s;cases tens with
 |nil=>simp at hx
 |cons y l=>
  simp at hx;subst hx;rfl
theorem xdr(hx:s.tens[0]? =some x):(s.setX 0 fun y=>{y with tok:=y.tok - 1}).tens[0]? =some {x with tok:=x.tok - 1}:=by
 obtain⟨clock,draw,lane,tens,tres,gras⟩:=s;cases tens with
 |nil=>simp at hx
 |cons y l=>
  simp at hx;subst hx;rfl
theorem xds{a:Nat}{t u:TypeId}{x y:Array Value}(h1:Blk w a t x)(h2:Blk w b u y)(h:t≠u):a≠b:=fun e=>by
 subst e;have h3:some (Obj.cells x t (0,0))=some (Obj.cells y u (0,0)):=h1.symm.trans h2;injection h3 with h3;injection h3 with h4 h5;exact h h5
theorem xdt(W:World)(hT:Tabs W)(hE:ErrT W)(cx cy:Int)(st:Nat)(A:Option Addr)(n k:Nat)(bs:List Nat)(hr:Reads W W.heap.size 1 A n (byv bs))(hx: -9223372036854775808≤cx∧cx≤9223372036854775807)(hy: -9223372036854775808≤cy∧cy≤9223372036854775807)(hst:st<4294967296)(hnk:n≤k)(hn:n≤140737488351232)(hbs:∀b∈bs,b<256)
 (l:List Stp)(Al:Option Addr)(nl kl:Nat)(hl:StpsR W Al l)(hll:l.length=nl)(h140:∀S∈l,S.raw.length≤140737488351232)
 (R:Req)(Ac:Option Addr)(cc:Nat)(Aq:Option Addr)(nq cq:Nat)(hg:R.Good)(hrl:R.leaf.length=nq)(hnq:nq≤cq)(hqm:cq≤maxLen)(hql:Reads W W.heap.size 1 Aq nq (byv R.leaf))(hcv:Reads W W.heap.size 2 Ac R.cavs.length (cavv R.cavs))(hcc:R.cavs.length≤cc)(hcm:cc≤maxLen)(hc88:R.cavs.length≤8796093022000):
 Zc 7 #[.agg #[.int .i64 cx,.int .i64 cy,.int .u32 (st:Int),.slice A n k],.slice Al nl kl,.agg (reqv R (.slice Ac R.cavs.length cc) (.slice Aq nq cq)).toArray] W fun e w'=>e=.returned (.bool true)∧Below W.heap.size W w':=by
 have lQ:=qiu R (.slice Ac R.cavs.length cc) (.slice Aq nq cq) hg.tag;obtain⟨Q,hQ⟩:=xeq (reqv R (.slice Ac R.cavs.length cc) (.slice Aq nq cq));rw[hQ]at lQ ⊢;have hco:=xcy cx cy st bs hbs;obtain⟨c,hc⟩:=xeq (xcx cx cy st bs);rw[hc]at hco;obtain⟨W0,hW0⟩:=eqx ((W.alloc (.cells #[.int .i64 cx,.int .i64 cy,.int .u32 (st:Int),.slice A n k] 25)).alloc (.cells Q.toArray 34));have k0:=zNb hW0;have q0:=zNc hW0;have b0:=zMb hW0;have CC:=xcz cx cy st A n k bs W0 (hr.call b0) hx hy hst hnk hn;rw[hc]at CC;obtain⟨BG,BH,K0,Q0,B0,HT,HE,AC⟩:=zh8 CC hW0 k0 q0 b0 hT hE hco;obtain⟨HL,AU,AG,HQ,LQ,HG,BI,BJ⟩:=zh8 hl hll h140 hQ lQ hg hrl hc88;obtain⟨AV,BK,BL,BM,CM⟩:=zh5 hql hqm hcc hnq (fun(w:World)(col:Col)(hb:Below W.heap.size W w)(low:∀b,b<W.heap.size→col b=0)=>xd4 (m:=300) hg hrl hnq hqm hql hcv hcc hcm hb low);clear CC hW0 k0 q0 b0 hT hE hco hl hll h140 hQ lQ hg hr hx hy hst hnk hn hbs hc hrl hnq hqm hql hcv hcc hcm hc88;go_enter Tryz.func7,Tryz.ntmps7
 go_upto_region 1 with(fail)
 rw[←BH.o];have RK:=zh1 (qap K0.o 0 [.int .i64 cx,.int .i64 cy,.int .u32 (st:Int),.slice A n k] zjq);go_wp2_with (refine qaq rfl 25 (.tmp 3) rfl W.heap.size 0 rfl [.int .i64 cx,.int .i64 cy,.int .u32 (st:Int),.slice A n k] _ RK.o Tryz.underlying25 rfl zk ?_)
 refine BG.o.mono ?_;rintro e w1 ⟨A1,n1,k1,rfl,r1,a1,b1⟩;obtain⟨K1,R1,AW,B1⟩:=zh4 (K0.below b1 K0.lt) r1 a1 b1;clear r1 a1 b1;go_upto_region 2 with(refine wpList_store_row rfl 25 (.tmp 3) (.tmp 15) rfl W.heap.size #[.int .i64 c.width,.int .i64 c.quantum,.int .u32 (c.store:Int),.slice A1 n1 k1] rfl rfl 25 _ K1.o zk zm (by simp[Value.oneCell']) ?_)
 obtain⟨W2,hW2⟩:=eqx (w1.setRow W.heap.size #[.int .i64 c.width,.int .i64 c.quantum,.int .u32 (c.store:Int),.slice A1 n1 k1]);rw[←hW2];have hg2:w1.grownBy W2 (some W.heap.size):=by rw[hW2];exact qam _ _ _
 have ne2:∀ad,A1=some ad→ad.block≠W.heap.size:=fun ad e h=>by
  have h1:=AW.o ad e;have h2:=Q0.lt;omega
 have k2:Blk W2 W.heap.size 25 #[.int .i64 c.width,.int .i64 c.quantum,.int .u32 (c.store:Int),.slice A1 n1 k1]:=by rw[hW2];exact K1.setRow _
 have r2:=xd0 R1.o hg2 ne2;have q2:Blk W2 (W.heap.size+1) 34 Q.toArray:=(Q0.below B1.o Q0.lt).grown hg2 (by intro e;injection e with e;omega);have b2:Below W.heap.size W W2:=(B0.trans (B1.mono B0.size)).grown hg2 (tB1 B0.size B1.size) (by intro g hg;injection hg with hg;omega);have CN:=xap c A1 n1 k1 W2 AC.o r2 (HT.below b2 HT.size);obtain⟨K2,R2,Q2,B2,BN,N2,L2,BO⟩:=zh8 k2 r2 q2 b2 CN ne2 (show ∀ad,A1=some ad→W.heap.size+1<ad.block from fun ad e=>by have h1:=AW.o ad e;have h2:=Q0.lt;omega) (qap k2 0 [.int .i64 c.width,.int .i64 c.quantum,.int .u32 (c.store:Int),.slice A1 n1 k1] zjq);clear hW2 hg2 ne2 k2 r2 q2 b2 CN RK K1 R1;go_wp2_with (refine qaq rfl 25 (.tmp 3) rfl W.heap.size 0 rfl [.int .i64 c.width,.int .i64 c.quantum,.int .u32 (c.store:Int),.slice A1 n1 k1] _ BO.o Tryz.underlying25 rfl zk ?_)
 refine BN.o.mono ?_;rintro e w3 ⟨g,L,css,col,rfl,m3,z3,b3⟩;have K3c:=zh1 (K2.below b3 K2.lt);have BP:=zh1 (qap K3c.o 0 [.int .i64 c.width,.int .i64 c.quantum,.int .u32 (c.store:Int),.slice A1 n1 k1] zjq);have CW:=xas c A1 n1 k1 w3 (R2.call b3);obtain⟨BQ,M3,Z3,B3⟩:=zh4 CW m3 z3 b3;clear m3 z3 b3 CW;go_wp2_with (refine qaq rfl 25 (.tmp 3) rfl W.heap.size 0 rfl [.int .i64 c.width,.int .i64 c.quantum,.int .u32 (c.store:Int),.slice A1 n1 k1] _ BP.o Tryz.underlying25 rfl zk ?_)
 refine BQ.o.mono ?_;rintro e w4 ⟨gw,tb,rfl,wa4,lg,lt,b4⟩;have s4:=xd1 HT.o HE.o B2.o R2.o M3.o Z3.o B3.o wa4 lg lt b4;obtain⟨B,hB⟩:=xeq w4.heap.size;obtain⟨S4,b24⟩:=zh2 s4 (B3.trans (b4.mono B3.size));obtain⟨Q4,AX,LG,LT⟩:=zh4 (Q2.below b24.o Q2.lt) (show col (W.heap.size+1)=0 from Z3.o _ Q2.lt) (show W.heap.size+1<gw by have:=Q2.lt;have:=B3.size;omega) (show W.heap.size+1<tb by have:=Q2.lt;have:=B3.size;omega);rw[hB]at S4;have AY:=zh1 wa4;have AD:=zh1 (show 0<n1→∀ad,A1=some ad→(col ad.block=0∧ad.block<B)∧ad.block≠W.heap.size+1 from fun h0 ad e=>by
  obtain⟨ad',e',hlt,_⟩:=R2.o.2 h0;rw[e]at e';injection e' with e';subst e';have h1:=Z3.o _ hlt;have h2:=L2.o ad e;have h3:=b24.size;exact⟨⟨h1,by omega⟩,by omega⟩)
 clear s4 wa4 lg lt b4 hB;have hnll:=AU.o;go_upto_block 0 with fail
 go_cut [10] (fun s10 wx=>∃(colr:Col) (s:Sta),Hid (Sit W B wx colr g gw tb c s)∧Hid (Rest w4 col wx colr))
 case first=>
  go_wp2_with fail
  go_loopw [10] (fun i wr=>∃(j:Nat) (colr:Col),j≤nl∧j≤15∧i=.int .i64 j∧Hid (Sit W B wr colr g gw tb c (xd2 c (newS c) (l.take j)))∧Hid (Rest w4 col wr colr)) (fun i _=>15 - (intOf i).toNat)
  case atStart=>exact⟨0,col,by omega,by omega,rfl,S4,zh1 ⟨rfl,rfl,rfl,tA4 _,fun _ _ h=>⟨rfl,h⟩⟩⟩
  case round=>
   obtain⟨j,colr,hj,hj15,rfl,hs,hr⟩:=hrel;by_cases h1:j<nl
   ·
    have q1:(j:Int)<nl:=zo;by_cases h2:j<15
    ·
     have q2:(j:Int)<15:=zo;obtain⟨S,hS⟩:∃S,l[j]? =some S:=⟨_,tA7 (by rw[AU.o];exact h1)⟩;have hlr:=HL.stay hs.below.size (fun b hb=>hs.below.block b hb);obtain⟨gb,go,cs,hA,h53,hst,hrg⟩:=hlr.at_ hS;subst hA;have CS:=xcw hs.o AC.o S cs hst (AG.o S (tB2 hS));obtain⟨AH,BR,BS,HI⟩:=zh4 CS hS hrg (zI 44 h53);clear CS hS hlr hst hrg h53;go_wp2_with (refine zld BS.o zu44 HI.o ?_)
     refine AH.o.mono ?_;rintro e w5 ⟨v5,col5,rfl,-,-,s5,r5⟩;obtain⟨S5,R5⟩:=zh2 s5 (hr.trans r5);clear s5 r5;go_wp2
     go_roundw
     case rel=>
      refine⟨j+1,col5,by omega,by omega,by go_num,?_,R5⟩;rw[xd3 BR.o];exact S5
     case measure=>simp[intOf];omega
    have q2:¬(j:Int)<15:=zo;go_wp2
    go_meet
    case rel=>exact⟨colr,_,hs,hr⟩
   have q1:¬(j:Int)<nl:=zo;go_wp2
   go_meet
   case rel=>exact⟨colr,_,hs,hr⟩
 case rest=>
  obtain⟨colr,s,hs,hr⟩:=hcut;obtain⟨W5,rfl⟩:=eqx wc;have q5:=hr.blk Q4.o AX.o;have e0:=(q5.cell 0).trans (show Q.toArray[0]? =some (.int .i64 R.op) by rw[←HQ.o,tA3];rfl);have f0:=q5.frozen 0;have c5:colr (W.heap.size+1)=0:=(hr.block _ Q4.lt AX.o).2;have wl5:=AY.rest hr.o S4.gws.1 S4.tbs.1 (fun h0 ad e=>(AD.o h0 ad e).1.1);have sd5:0<n1→∀ad,A1=some ad→(colr ad.block=0∧ad.block<B)∧ad.block≠W.heap.size+1:=fun h0 ad e=>by
   obtain⟨ad',e',hlt,_⟩:=AY.seed.2 h0;rw[e]at e';injection e' with e';subst e';exact⟨⟨(hr.block _ hlt (AD.o h0 ad e).1.1).2,(AD.o h0 ad e).1.2⟩,(AD.o h0 ad e).2⟩
  have hop:=(Go.Lit.wf_int_iff _ _).1 HG.op;rw[IntKind.min_i64,IntKind.max_i64]at hop;have hwi:=xc7 R.op 0 3 zo;have AZ:=zh1 (fun w=>xc8 R.op 0 3 w zo zo zo hop.1 hop.2);obtain⟨wi,hwi2⟩:=xeq (xc6 R.op 0 3);rw[hwi2]at hwi AZ;obtain⟨o1,ho1⟩:=xeq (2+wi);have p1:IntKind.i64.wrap (2+wi)=o1:=by rw[tBb _ zo];exact ho1
  have p2:wrap64 (2+wi)=o1:=by rw[IntWalk.wrap64_in _ zo];exact ho1
  have BT:=zh1 (show 2≤o1∧o1≤5 by omega);have g6:({R with op:=o1}:Req).Good:={HG.o with op:=(Go.Lit.wf_int_iff _ _).2 (by rw[IntKind.min_i64,IntKind.max_i64];exact⟨by show _≤o1;omega,by show o1≤_;omega⟩)};have G6:=zh1 g6;have h6:Blk (W5.setCell ⟨W.heap.size+1,0,none⟩ (.int .i64 o1)) (W.heap.size+1) 34 (reqv {R with op:=o1} (.slice Ac R.cavs.length cc) (.slice Aq nq cq)).toArray:=by
   have h:=q5.set_ 0 (.int .i64 o1);rw[List.setIfInBounds_toArray,←HQ.o]at h;exact h
  have s6:=hs.boxed wl5 sd5 (qab (tB9 W5 (some (W.heap.size+1))) (p:=⟨W.heap.size+1,0,none⟩) (.inl rfl) (.int .i64 o1)) c5 zo (by have:=LG.o;omega) (by have:=LT.o;omega);have wl6:WldAt (W5.setCell ⟨W.heap.size+1,0,none⟩ (.int .i64 o1)) gw tb c A1 n1 k1:=by
   have hgr:=qab (tB9 W5 (some (W.heap.size+1))) (p:=⟨W.heap.size+1,0,none⟩) (.inl rfl) (.int .i64 o1);have n1:=LG.o;have n2:=LT.o;exact⟨wl5.blk.grown hgr (by intro e;injection e with e;omega),Blk.grown wl5.tab hgr (by intro e;injection e with e;omega),xd0 wl5.seed hgr (fun ad e=>by have:=L2.o ad e;omega)⟩
  obtain⟨C5,H6,S6,A6,B4⟩:=zh5 c5 h6 s6 wl6 sd5;clear c5 h6 s6 wl5 wl6 sd5 g6 hop hwi hwi2 ho1 q5;go_wp2_with fail
  refine(AZ.o W5).mono ?_;rintro e w' ⟨rfl,rfl⟩;obtain⟨W6,hW6⟩:=eqx (W5.setCell ⟨W.heap.size+1,0,none⟩ (.int .i64 o1));go_upto_region 11 with(fail)
  rw[←hW6];rw[←hW6]at H6 S6 A6;clear hW6 e0 f0 p1 p2;have e47:=(H6.cell 47).trans (show (reqv {R with op:=o1} (.slice Ac R.cavs.length cc) (.slice Aq nq cq)).toArray[47]? =some (.slice Aq nq cq) by
   rw[tA3];exact(qdh {R with op:=o1} (.slice Ac R.cavs.length cc) (.slice Aq nq cq) HG.tag 12).trans rfl)
  have f47:=H6.frozen 47;go_upto_if 54 with(fail)
  go_cut [] (fun wx=>∃(R2:Req) (Al2:Option Addr) (n2 c2:Nat),Hid (R2.Good∧R2.op=o1∧R2.leaf.length=n2∧n2≤c2∧c2≤maxLen)∧Hid (Blk wx (W.heap.size+1) 34 (reqv R2 (.slice Ac R.cavs.length cc) (.slice Al2 n2 c2)).toArray)∧Hid (Sit W B wx colr g gw tb c s∧WldAt wx gw tb c A1 n1 k1)∧Hid (∀(w:World) (col:Col),Below W.heap.size W w→(∀b,b<W.heap.size→col b=0)→Reads w w.heap.size 1 Al2 n2 (byv R2.leaf)∧(0<n2→∀ad,Al2=some ad→col ad.block=0)))
  case first=>
   by_cases h3:nq≤100
   ·
    have q:¬(nq:Int)>100:=zo;go_wp2
    go_meet
    case rel=>
     refine⟨{R with op:=o1},Aq,nq,cq,⟨G6.o,rfl,BI.o,BM.o,BK.o⟩,H6,⟨S6.o,A6.o⟩,fun w col hb low=>⟨AV.call hb,fun h0 ad e=>?_⟩⟩;obtain⟨ad',e',hlt,_⟩:=AV.o.2 h0;rw[e]at e';injection e' with e';subst e';exact low _ hlt
   have q:(nq:Int)>100:=zo;have H7:=zh1 (show Blk (W6.setCell ⟨W.heap.size+1,47,none⟩ (.slice none 0 0)) (W.heap.size+1) 34 (reqv {R with op:=o1,leaf:=[]} (.slice Ac R.cavs.length cc) (.slice none 0 0)).toArray by
    have h:=H6.set_ 47 (.slice none 0 0);rw[List.setIfInBounds_toArray,qzg {R with op:=o1} (.slice Ac R.cavs.length cc) (.slice Aq nq cq) (.slice none 0 0) HG.tag]at h;exact h)
   have S7:=zh1 (S6.boxed A6.o B4.o (qab (tB9 W6 (some (W.heap.size+1))) (p:=⟨W.heap.size+1,47,none⟩) (.inl rfl) (.slice none 0 0)) C5.o zo (by have:=LG.o;omega) (by have:=LT.o;omega));have BU:=zh1 (show WldAt (W6.setCell ⟨W.heap.size+1,47,none⟩ (.slice none 0 0)) gw tb c A1 n1 k1 from by
    have hgr:=qab (tB9 W6 (some (W.heap.size+1))) (p:=⟨W.heap.size+1,47,none⟩) (.inl rfl) (.slice none 0 0);have n1:=LG.o;have n2:=LT.o;exact⟨A6.blk.grown hgr (by intro e;injection e with e;omega),Blk.grown A6.tab hgr (by intro e;injection e with e;omega),xd0 A6.seed hgr (fun ad e=>by have:=L2.o ad e;omega)⟩)
   have G7:=zh1 (show ({R with op:=o1,leaf:=[]}:Req).Good from {G6.o with leafb:=fun b hb=>(nomatch hb)});go_wp2
   go_meet
   case rel=>exact⟨{R with op:=o1,leaf:=[]},none,0,0,⟨G7.o,rfl,rfl,tA4 _,by simp[maxLen]⟩,H7,⟨S7.o,BU.o⟩,fun w col hb low=>⟨Reads.none_,fun h0=>absurd h0 zdc⟩⟩
  case rest=>
   obtain⟨R2,Al2,n2,c2,hR2,h7,s7,hrl2⟩:=hcut;obtain⟨W7,hW7⟩:=eqx wc;rw[←hW7]at h7 s7 ⊢;clear hW7 e47 f47;have l2:=qiu R2 (.slice Ac R.cavs.length cc) (.slice Al2 n2 c2) hR2.o.1.tag;have CB:=xa0 s7.o.1 AC.o 0 0 rfl zdc R2 hR2.o.1.tag (.slice Ac R.cavs.length cc) (.slice Al2 n2 c2) rfl rfl;obtain⟨Q2,hQ2⟩:=xeq (reqv R2 (.slice Ac R.cavs.length cc) (.slice Al2 n2 c2));rw[hQ2]at h7 l2 CB;obtain⟨BV,BW,BX,BY⟩:=zh4 (qap h7.o 0 Q2 zjq) (zI 34 l2) l2 CB;clear l2 CB hQ2;go_wp2_with (refine zld BV.o zu34 BW.o ?_)
   refine BY.o.mono ?_;rintro e w8 ⟨rfl,s8,b8⟩;have h8:=h7.below b8 h7.lt;have wl8:=s7.o.2.call b8;have l3:=qiu (byR c 0 R2) (.slice none 0 0) (.slice Al2 n2 c2) (qjv _ _);have o3:=xc0 (byR c 0 R2) (.slice none 0 0) (.slice Al2 n2 c2) rfl rfl;obtain⟨Q3,hQ3⟩:=xeq (reqv (byR c 0 R2) (.slice none 0 0) (.slice Al2 n2 c2));rw[hQ3]at l3 o3;obtain⟨B5,BZ,C0,C1,H8⟩:=zh5 (zI 34 l3) l3 o3 hQ3 h8;have s9:=s8.boxed wl8 B4.o (qam w8 (W.heap.size+1) Q3.toArray) C5.o zo (by have:=LG.o;omega) (by have:=LT.o;omega);obtain⟨S9,h9⟩:=zh2 s9 (h8.setRow Q3.toArray);rw[hQ3];clear s8 b8 h8 wl8 l3 o3 hQ3 s9;go_upto_region 14 with(refine zst H8.o B5.o (by simp[BX.o,BZ.o]) C0.o ?_)
   obtain⟨W9,hW9⟩:=eqx (w8.setRow (W.heap.size+1) Q3.toArray);rw[←hW9];rw[←hW9]at S9 h9;clear hW9;have CS:=xd5 S9.o;have AH:=zh1 CS;clear CS;go_wp2_with fail
   refine AH.o.mono ?_;rintro e w10 ⟨ccA,LA,cssA,rfl,cpA,bA,sA⟩;have lS:=qvo s LA;have oS:=qvp s LA;obtain⟨SV,hSV⟩:=xeq (stav s LA);rw[hSV]at lS oS ⊢;have bx10:=xc3 sA 49 #[.int .u64 0,.int .u32 0,.int .i64 0,.slice none 0 0,.slice none 0 0,.slice none 0 0] SV;obtain⟨C2,IS,LS,OS,AI,A7,C4,BA⟩:=zh8 (Blk.new w10 49 #[.int .u64 0,.int .u32 0,.int .i64 0,.slice none 0 0,.slice none 0 0,.slice none 0 0]) (zI 49 lS) lS oS hSV bx10 cpA bA;clear lS oS hSV bx10 cpA bA sA;go_upto_region 15 with(refine zst C2.o IS.o (by simp[LS.o]) OS.o ?_)
   obtain⟨C6,hW10⟩:=eqx ((w10.alloc (.cells #[.int .u64 0,.int .u32 0,.int .i64 0,.slice none 0 0,.slice none 0 0,.slice none 0 0] 49)).setRow w10.heap.size SV.toArray);rw[←hW10];rw[←hW10]at A7;obtain⟨GA,hGA⟩:=xeq w10.heap.size;rw[hGA];obtain⟨s11,x11,b11⟩:=A7.o;rw[hGA]at x11;have cp11:=C4.call b11;have h11:=(h9.below BA.o h9.lt).below b11 (h9.below BA.o h9.lt).lt;obtain⟨⟨s',a⟩,hdo⟩:∃x,doS c s (byR c 0 R2)=x:=⟨_,rfl⟩;have hrd:=hrl2.o C6 colr s11.below s11.low;have CD:=xa1 s11 AC.o 0 R2 Al2 n2 c2 hR2.o.2.2.1 hdo (xb5 zdc hR2.o.1) hrd.1 hR2.o.2.2.2.1 hR2.o.2.2.2.2 hrd.2;rw[C1.o]at CD;obtain⟨C7,C8,AJ,A8,C9⟩:=zh5 CD hdo (qap h11 0 Q3 zjq) cp11 x11;clear CD hdo cp11 x11 s11 b11 h11 hrd hW10 hGA;go_wp2_with (refine zld AJ.o zu34 B5.o ?_)
   refine C7.o.mono ?_;rintro e v12 ⟨AK,col12,rfl,hX12,s12,r12⟩;have pk12:=hX12.pk;obtain⟨AL,B6,A9,B7⟩:=zh4 hX12 r12 (qzz s12 AK) (Blk.new v12 57 Tryz.zeroCells57);clear hX12 s12 r12;go_upto_region 16 with(refine qqi _ _ _ AK B7.o pk12 ?_)
   obtain⟨CO,CP,hW12,hG12,B8,AM,B9⟩:=A9.o;rw[hW12,hG12];clear hW12 hG12 A9 B7 pk12;have CA:=zh1 (B6.trans (Rest.of_below B9.o));have BB:=xdp B8.o;have AN:=zh1 BB;clear BB;go_wp2_with fail
   refine AN.o.mono ?_;rintro e w14 ⟨ccB,LB,cssB,rfl,cpB,lowB,bB,sB⟩;have lS2:=qvo s' LB;have oS2:=qvp s' LB;obtain⟨SU,hSU⟩:=xeq (stav s' LB);rw[hSU]at lS2 oS2 ⊢;have bx14:=xc3 sB 49 #[.int .u64 0,.int .u32 0,.int .i64 0,.slice none 0 0,.slice none 0 0,.slice none 0 0] SU;obtain⟨CE,AO,CF,CG,AP,AA,CH,AB⟩:=zh8 (Blk.new w14 49 #[.int .u64 0,.int .u32 0,.int .i64 0,.slice none 0 0,.slice none 0 0,.slice none 0 0]) (zI 49 lS2) lS2 oS2 hSU bx14 cpB bB;clear lS2 oS2 hSU bx14 cpB bB sB;go_upto_region 17 with(refine zst CE.o AO.o (by simp[CF.o]) CG.o ?_)
   obtain⟨A2,hW15⟩:=eqx ((w14.alloc (.cells #[.int .u64 0,.int .u32 0,.int .i64 0,.slice none 0 0,.slice none 0 0,.slice none 0 0] 49)).setRow w14.heap.size SU.toArray);rw[←hW15];rw[←hW15]at AA;obtain⟨GB,hGB⟩:=xeq w14.heap.size;rw[hGB];obtain⟨s15,x15,b15⟩:=AA.o;rw[hGB]at x15;have r15:=(CA.trans (Rest.of_below AB.o)).trans (Rest.of_below b15);have xa:=C9.rest r15;have cpa:=A8.rest r15;have cpb:=CH.call b15;have bx:=(AM.call AB.o).call b15;have BC:=zh1 lowB;have c3:=(xa.blk.cell 3).trans (show SV.toArray[3]? =some (.slice (some ⟨LA.tg,0,none⟩) 16 LA.tc) by rw[tA3,←AI.o];rfl);have d3:=(x15.blk.cell 3).trans (show SU.toArray[3]? =some (.slice (some ⟨LB.tg,0,none⟩) 16 LB.tc) by rw[tA3,←AP.o];rfl);have e9:=(bx.blk.cell 0).trans (show AK.toArray[0]? =some (.int .i64 a.why) by rw[tA3];exact AL.why);have AQ:=zh1 (qvg (c:=c) (r:=byR c 0 R2) hs.ok (show 2≤R2.op∧R2.op≤5 by rw[hR2.o.2.1];exact BT.o) rfl);rw[C8.o]at AQ;obtain⟨AR,XA,XB,A3,A0,LS',LU'⟩:=zh7 s15 xa x15 cpa cpb (qap xa.blk 0 SV zjq) (qap x15.blk 0 SU zjq);clear hW15 hGB s15 x15 b15 r15 xa cpa cpb bx lowB;by_cases hw:a.why=0
   ·
    have q9:(a.why:Int)=0:=hw;obtain⟨x,hx,hk,hs'⟩:=AQ.o.2 hw;have hs':s'=s.setX 0 fun y=>{y with tok:=y.tok - 1}:=hs'
    have xok:=hs.ok.tens x (tB2 hx);have tb1:=xok.tok;have tb2:=xok.burst;have hx':s'.tens[0]? =some {x with tok:=x.tok - 1}:=by rw[hs'];exact xdr hx
    have sok':s'.Ok:=AR.ok;have u1:=A0.st.tens.cell ((qnk (j:=3) hx' zdc).trans rfl);have u2:=A3.st.tens.cell ((qnk (j:=3) hx zdc).trans rfl);rw[show 0*6+3=3 from rfl]at u1 u2;have hA0:ccA LB.tg=0:=by
     by_cases e:ccA LB.tg=0
     · exact e
     have h1:=(A8.own _ e).1;have h2:=B6.size;have h3:=B9.size;have h4:=BC.o;omega
    obtain⟨-,spb,hbb,-⟩:=A0.st.tens;have nA:=xds XA.blk hbb zdc;have nB:=xds XB.blk hbb zdc;have hsz:s'.Ok∧LB.tg<A2.heap.size∧col12 LB.tg=0∧B≤LB.tg:=⟨sok',(A0.own LB.tg (by rw[A0.st.tens.1];decide)).1,(A0.own LB.tg (by rw[A0.st.tens.1];decide)).2,tB1 B8.base.2.2 BC.o⟩;obtain⟨tk,htk⟩:=xeq x.tok;obtain⟨tm,htm⟩:=xeq (tk - 1);have u1:A2.cell? ⟨LB.tg,3,none⟩=some (.int .u32 (tm:Int)):=by rw[←htm,←htk];exact u1
    have u2:A2.cell? ⟨LA.tg,3,none⟩=some (.int .u32 (tk:Int)):=by rw[←htk];exact u2
    have w1:IntKind.u32.wrap ((tm:Int)+1)=(tk:Int):=by
     have e:(tm:Int)+1=tk:=zo;rw[e];exact tBf _ zo
    have hbk:=xdq hx;rw[←hs',htk]at hbk;obtain⟨BE,HX',U1,U2,AS,CI,NA,NB⟩:=zh8 hbk hx' u1 u2 hsz hA0 nA nB;obtain⟨C3,D3⟩:=zh2 c3 d3;clear hbb hx hk hs' xok tb1 tb2 hx' sok' u1 u2 hA0 nA nB hsz htk htm hbk;go_upto_region 20 with(fail)
    clear c3 d3 e9;obtain⟨S,HS9⟩:=zS fun w'=>Below A2.heap.size A2 w'
    refine zrs S 14 (zq 0 14 []) ((HS9.o _).mpr ((tA5 _ _).drew)) ?_;obtain⟨F0,F1,F2,F3⟩:=zh4 (zF HS9 C3.o) (zF HS9 D3.o) (zF HS9 U1.o) (zF HS9 U2.o);iterate 14 (refine zr4 ?_)
    refine qbf ?_;clear HS9 F0 F1 F2 F3;obtain⟨Wd,hWd,BD⟩:=zdr A2;rw[←hWd];clear hWd;have d3:=qai D3.o BD.o;have u1:=qai U1.o BD.o;have fz:Wd.frozen? ⟨LB.tg,3,none⟩=false:=(A0.call BD.o).st.tens.frozen 3;go_upto_region 23 with(fail)
    obtain⟨AE,hW16⟩:=eqx (Wd.setCell ⟨LB.tg,3,none⟩ (.int .u32 (tk:Int)));rw[←hW16];have hg16:Wd.grownBy AE (some LB.tg):=by rw[hW16];exact qab (tB9 Wd (some LB.tg)) (p:=⟨LB.tg,3,none⟩) (.inl rfl) _
    have s16:=(AR.call BD.o).grown hg16 AS.o.2.2.1 AS.o.2.2.2;have cpa:CpAt AE col12 ccA LA cssA s:=by rw[hW16];exact(A3.call BD.o).beside CI.o 3 _
    have cpb:CpAt AE col12 ccB LB cssB s:=by
     have h:=(A0.call BD.o).tenSet AS.o.1 HX'.o tk;rw[BE.o,←hW16]at h;exact h
    have ra:=qap ((XA.blk.below BD.o XA.blk.lt).grown hg16 (by intro e;injection e with e;exact NA.o e)) 0 SV zjq;have rb:=qap ((XB.blk.below BD.o XB.blk.lt).grown hg16 (by intro e;injection e with e;exact NB.o e)) 0 SU zjq;have st1:=cpa.stR hs.ok;have st2:=cpb.stR hs.ok;have hSVU:stav s LB=SU:=by
     have h:=AP.o;have h5:s'.clock=s.clock∧s'.draw=s.draw∧s'.lane=s.lane∧s'.gras=s.gras:=by rw[←BE.o];exact⟨rfl,rfl,rfl,rfl⟩
     unfold stav at h ⊢;rw[h5.1,h5.2.1,h5.2.2.1,h5.2.2.2]at h;exact h
    rw[AI.o]at st1;rw[hSVU]at st2;have A4:=xdo SV SU s s AE st1 st2;rw[decide_eq_true rfl]at A4;obtain⟨A5,AF,RA,RB⟩:=zh4 A4 s16 ra rb;clear hW16 hg16 s16 cpa cpb ra rb st1 st2 hSVU A4 d3 u1 fz w1;go_wp2_with (first
     |(refine zld RA.o zu49 IS.o ?_)
     |(refine zld RB.o zu49 AO.o ?_))
    refine zcb A5.o fun w17 b17=>?_
    have s17:=AF.call b17;have CK:=xbe w17 s17.tabs s17.err;obtain⟨AT,BF⟩:=zh2 CK s17;clear CK s17 b17;go_wp2_with fail
    refine zcb AT.o fun w18 b18=>?_
    have CJ:=zh1 (BF.below.trans (b18.mono BF.below.size));clear b18;go_wp2
    go_ret
    exact⟨rfl,CJ.o⟩
   have q9:¬(a.why:Int)=0:=hw;have hss:s'=s:=AQ.o.1 hw;have st1:=A3.stR hs.ok;have st2:=A0.stR (by rw[hss];exact hs.ok);rw[AI.o]at st1;rw[AP.o]at st2;have A4:=xdo SV SU s s' A2 st1 st2;rw[decide_eq_true hss.symm]at A4;have A5:=zh1 A4;clear hss st1 st2 A4;go_wp2_with (first
    |(refine zld LS'.o zu49 IS.o ?_)
    |(refine zld LU'.o zu49 AO.o ?_))
   refine zcb A5.o fun w16 b16=>?_
   have s16:=AR.call b16;have CK:=xbe w16 s16.tabs s16.err;obtain⟨AT,AF⟩:=zh2 CK s16;clear CK s16 b16;go_wp2_with fail
   refine zcb AT.o fun w17 b17=>?_
   have CL:=zh1 (AF.below.trans (b17.mono AF.below.size));clear b17;go_wp2
   go_ret
   exact⟨rfl,CL.o⟩
end Go.Proofs.YthomgopipiomhaaGreatDoor
